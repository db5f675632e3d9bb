-- Written by a program of this session (wip/tools/printseat.sh).
import Derived.Test.YtcejdokeaoklaaaPChkx0
import Derived.Test.YtcejdokeaoklaaaPChkx2
import Derived.Test.YtcejdokeaoklaaaPChkx3
import Derived.Test.YtcejdokeaoklaaaPChkx6
import Derived.Test.YtcejdokeaoklaaaPChkx7
namespace Go.Proofs.Ytcejdokeaoklaaa.PChk
open Go.RowKit Go.Proofs.YtcejdokeaoklaaaW.PrintWords Go.Proofs.YtcejdokeaoklaaaW.PrintLast Go.Proofs.YtcejdokeaoklaaaW.PrintMore
attribute [local go_sem] max2_int min2_int max_two min_two max_three min_three max_four min_four   -- for this text's walks alone
set_option linter.unusedVariables false
set_option linter.unusedSimpArgs false

attribute [local go_sem high] eqA30
/-! ### scholiastref04_Touched: function 16 -/
mutual
def scholiastref04_Touched.j1 : Nat → List (S30) → Int → Int → Int → Option (Int × Int)
  | 0, _, _, _, _ => none
  | k + 1, x0, x2, x206000, x206001 => scholiastref04_Touched.l1 k x0 x2 x206000 x206000
def scholiastref04_Touched.l1 : Nat → List (S30) → Int → Int → Int → Option (Int × Int)
  | 0, _, _, _, _ => none
  | k + 1, x0, x2, x206000, x206001 => if x206001 < (x0.length : Int) then (if 0 ≤ x206001 then (if ((rd_T30 x0 x206001).f0) < x2 then (scholiastref04_Touched.l1 k x0 x2 x206000 (wrap64 (x206001 + 1))) else (some (x206000, x206001))) else (none)) else (some (x206000, x206001))
def scholiastref04_Touched.l0 : Nat → List (S30) → Int → Int → Int → Int → Option (Int × Int)
  | 0, _, _, _, _, _ => none
  | k + 1, x0, x1, x2, x206000, x206001 => if x206000 < (x0.length : Int) then (if 0 ≤ x206000 then (if ((rd_T30 x0 x206000).f1) ≤ x1 then (scholiastref04_Touched.l0 k x0 x1 x2 (wrap64 (x206000 + 1)) x206001) else (scholiastref04_Touched.j1 k x0 x2 x206000 x206001)) else (none)) else (scholiastref04_Touched.j1 k x0 x2 x206000 x206001)
end
def scholiastref04_Touched.f (k : Nat) (l0 : List (S30)) (a1 : Int) (a2 : Int) : Option (Int × Int) := scholiastref04_Touched.l0 k l0 a1 a2 0 0
theorem scholiastref04_Touched.mono_l : ∀ k, (∀ y0 y1 y2 y3, LeO (scholiastref04_Touched.j1 k y0 y1 y2 y3) (scholiastref04_Touched.j1 (k + 1) y0 y1 y2 y3)) ∧ (∀ y0 y1 y2 y3, LeO (scholiastref04_Touched.l1 k y0 y1 y2 y3) (scholiastref04_Touched.l1 (k + 1) y0 y1 y2 y3)) ∧ (∀ y0 y1 y2 y3 y4, LeO (scholiastref04_Touched.l0 k y0 y1 y2 y3 y4) (scholiastref04_Touched.l0 (k + 1) y0 y1 y2 y3 y4))
  | 0 => ⟨fun _ _ _ _ r h => by simp [scholiastref04_Touched.j1] at h, fun _ _ _ _ r h => by simp [scholiastref04_Touched.l1] at h, fun _ _ _ _ _ r h => by simp [scholiastref04_Touched.l0] at h⟩
  | k + 1 => by
    obtain ⟨ih0, ih1, ih2⟩ := scholiastref04_Touched.mono_l k
    refine ⟨?_, ?_, ?_⟩
    · intro y0 y1 y2 y3
      unfold scholiastref04_Touched.j1
      repeat' first
      | (with_reducible exact ih0 _ _ _ _)
      | (with_reducible exact ih1 _ _ _ _)
      | (with_reducible exact ih2 _ _ _ _ _)
      | (with_reducible exact LeO.refl _)
      | (with_reducible exact LeO.none _)
      | (with_reducible refine LeO.ite ?_ ?_)
      | (with_reducible refine LeO.bind ?_ (fun _ => ?_))
      | exact ih0 _ _ _ _
      | exact ih1 _ _ _ _
      | exact ih2 _ _ _ _ _
      | exact LeO.none _
      | refine LeO.ite ?_ ?_
      | refine LeO.bind ?_ (fun _ => ?_)
    · intro y0 y1 y2 y3
      unfold scholiastref04_Touched.l1
      repeat' first
      | (with_reducible exact ih0 _ _ _ _)
      | (with_reducible exact ih1 _ _ _ _)
      | (with_reducible exact ih2 _ _ _ _ _)
      | (with_reducible exact LeO.refl _)
      | (with_reducible exact LeO.none _)
      | (with_reducible refine LeO.ite ?_ ?_)
      | (with_reducible refine LeO.bind ?_ (fun _ => ?_))
      | exact ih0 _ _ _ _
      | exact ih1 _ _ _ _
      | exact ih2 _ _ _ _ _
      | exact LeO.none _
      | refine LeO.ite ?_ ?_
      | refine LeO.bind ?_ (fun _ => ?_)
    · intro y0 y1 y2 y3 y4
      unfold scholiastref04_Touched.l0
      repeat' first
      | (with_reducible exact ih0 _ _ _ _)
      | (with_reducible exact ih1 _ _ _ _)
      | (with_reducible exact ih2 _ _ _ _ _)
      | (with_reducible exact LeO.refl _)
      | (with_reducible exact LeO.none _)
      | (with_reducible refine LeO.ite ?_ ?_)
      | (with_reducible refine LeO.bind ?_ (fun _ => ?_))
      | exact ih0 _ _ _ _
      | exact ih1 _ _ _ _
      | exact ih2 _ _ _ _ _
      | exact LeO.none _
      | refine LeO.ite ?_ ?_
      | refine LeO.bind ?_ (fun _ => ?_)
theorem scholiastref04_Touched.mono : ∀ a0 a1 a2 k, LeO (scholiastref04_Touched.f k a0 a1 a2) (scholiastref04_Touched.f (k + 1) a0 a1 a2) := by
  intro a0 a1 a2 k
  obtain ⟨ih0, ih1, ih2⟩ := scholiastref04_Touched.mono_l k
  unfold scholiastref04_Touched.f
  repeat' first
      | (with_reducible exact ih0 _ _ _ _)
      | (with_reducible exact ih1 _ _ _ _)
      | (with_reducible exact ih2 _ _ _ _ _)
      | (with_reducible exact LeO.refl _)
      | (with_reducible exact LeO.none _)
      | (with_reducible refine LeO.ite ?_ ?_)
      | (with_reducible refine LeO.bind ?_ (fun _ => ?_))
      | exact ih0 _ _ _ _
      | exact ih1 _ _ _ _
      | exact ih2 _ _ _ _ _
      | exact LeO.none _
      | refine LeO.ite ?_ ?_
      | refine LeO.bind ?_ (fun _ => ?_)
set_option maxHeartbeats 8000000 in
set_option maxRecDepth 100000 in
theorem scholiastref04_Touched.calls (k : Nat) (A0 : Option Addr) (c0 : Nat) (l0 : List (S30)) (a1 : Int) (a2 : Int) (r1 : Int) (r2 : Int) (w : World) (hr0 : Kd.C k30 w A0 l0.length l0) (hc0 : l0.length ≤ c0) (h : scholiastref04_Touched.f k l0 a1 a2 = some (r1, r2)) :
    Calls Try.prog 16 #[.slice A0 l0.length c0, .int .i64 a1, .int .i64 a2] w fun e w' => e = .returned (.agg #[.int .i64 r1, .int .i64 r2]) ∧ Below w.heap.size w w' := by
  have hu30 := Try.underlying30
  have HR0 := Aside0.mk hr0
  have HC0 := Aside0.mk hc0
  clear hr0 hc0
  have HB := Aside0.mk (Below.refl w.heap.size w)
  have H : (scholiastref04_Touched.l0 k l0 a1 a2 0 0) = some (r1, r2) := h
  clear h
  have HC4 := Aside0.mk H
  clear H
  go_enter Try.func16, Try.ntmps16
  go_upto_block 0 with (first | ((with_reducible refine gate_dst (N := 6) rfl ?_); refine box_event ?hg (N := 6) ?hd (cs := #[.int .i64 0, .int .i64 0]) (t := 30) ?hr ?_; (case hd => rfl); (case hg => rfl); (case hr => first | (go_simp; done) | (go_simp; rfl)); intro gb204 hg w5 hbox hb; have n0_ := Aside0.mk (below_step (by repeat (first | (with_reducible first | exact HB.out | apply below_alloc | apply pw_below_drewN | apply below_drew1) | exact HB.out)) hb); have n1_ := Aside0.mk (hbox); have n2_ := Aside0.mk ((by rw [hg]; exact (below_size (by repeat (first | (with_reducible first | exact HB.out | apply below_alloc | apply pw_below_drewN | apply below_drew1) | exact HB.out))) : w.heap.size ≤ gb204)); have n3_ := Aside0.mk ((by rw [hg]; exact (below_size (by repeat (first | (with_reducible first | exact HB.out | apply below_alloc | apply pw_below_drewN | apply below_drew1) | exact HB.out))) : w.heap.size ≤ gb204)); clear HB; have HB := n0_; have BK204 := n1_; have GW204 := n2_; have GE204 := n3_; clear n0_ n1_ n2_ n3_; clear hb hbox hg) | ((with_reducible refine gate_dst (N := 7) rfl ?_); refine box_event ?hg (N := 7) ?hd (cs := #[.int .i64 0, .int .i64 0]) (t := 30) ?hr ?_; (case hd => rfl); (case hg => rfl); (case hr => first | (go_simp; done) | (go_simp; rfl)); intro gb205 hg w6 hbox hb; have n0_ := Aside0.mk (blk_below (g := gb204) (o := .cells #[.int .i64 0, .int .i64 0] 30 (0, 0)) (by (with_reducible repeat (first | refine blk_drewN ?_ _ | refine blk_drew ?_ | refine blk_alloc ?_ _)); exact BK204.out) hb); have n1_ := Aside0.mk (below_step (by repeat (first | (with_reducible first | exact HB.out | apply below_alloc | apply pw_below_drewN | apply below_drew1 | refine below_set ?_ GE204.out) | exact HB.out)) hb); have n2_ := Aside0.mk (hbox); have n3_ := Aside0.mk ((by rw [hg]; exact (below_size (by repeat (first | (with_reducible first | exact HB.out | apply below_alloc | apply pw_below_drewN | apply below_drew1 | refine below_set ?_ GE204.out) | exact HB.out))) : w.heap.size ≤ gb205)); have n4_ := Aside0.mk ((by rw [hg]; exact (below_size (by repeat (first | (with_reducible first | exact HB.out | apply below_alloc | apply pw_below_drewN | apply below_drew1 | refine below_set ?_ GE204.out) | exact HB.out))) : w.heap.size ≤ gb205)); have n5_ := Aside0.mk ((by rw [hg]; exact Nat.ne_of_lt (blk_lt (g := gb204) (o := .cells #[.int .i64 0, .int .i64 0] 30 (0, 0)) (by (with_reducible repeat (first | refine blk_drewN ?_ _ | refine blk_drew ?_ | refine blk_alloc ?_ _)); exact BK204.out)) : gb204 ≠ gb205)); have n6_ := Aside0.mk ((by rw [hg]; exact Nat.ne_of_gt (blk_lt (g := gb204) (o := .cells #[.int .i64 0, .int .i64 0] 30 (0, 0)) (by (with_reducible repeat (first | refine blk_drewN ?_ _ | refine blk_drew ?_ | refine blk_alloc ?_ _)); exact BK204.out)) : gb205 ≠ gb204)); clear BK204; clear HB; have BK204 := n0_; have HB := n1_; have BK205 := n2_; have GW205 := n3_; have GE205 := n4_; have NB204_205 := n5_; have NB205_204 := n6_; clear n0_ n1_ n2_ n3_ n4_ n5_ n6_; clear hb hbox hg; have hnb7 := NB205_204.out; have hnc7 := NB204_205.out; have hcz8_0 : w6.cell? ⟨gb205, 0, none⟩ = some (.int .i64 0) := (blk_cell BK205.out 0).trans rfl; have hcz8_1 : w6.cell? ⟨gb205, 1, none⟩ = some (.int .i64 0) := (blk_cell BK205.out 1).trans rfl; have hfz8_0 := blk_frozen BK205.out 0; have hfz8_1 := blk_frozen BK205.out 1))
  (try simp only [Act.put, List.setIfInBounds_toArray, List.set_cons_zero, List.set_cons_succ])
  go_cut [] (fun wc => ∃ (kq : Nat) (x206000_3 : Int), Aside0 (scholiastref04_Touched.j1 kq l0 a2 x206000_3 0 = some (r1, r2)) ∧ Aside0 (kq ≤ k) ∧ Aside0 (wc.heap[gb204]? = some (.cells #[.int .i64 0, .int .i64 0] 30 (0, 0))) ∧ Aside0 (wc.heap[gb205]? = some (.cells #[.int .i64 x206000_3, .int .i64 0] 30 (0, 0))) ∧ Aside0 (Below w.heap.size w wc))
  case first =>
    have H := HC4.out
    clear HC4
    have H' := Aside0.mk H
    clear H
    go_wp2
    go_loopg [] k (fun kq w' => ∃ (x206000_1 : Int), Aside0 (scholiastref04_Touched.l0 kq l0 a1 a2 x206000_1 0 = some (r1, r2)) ∧ Aside0 (kq ≤ k) ∧ Aside0 (w'.heap[gb204]? = some (.cells #[.int .i64 0, .int .i64 0] 30 (0, 0))) ∧ Aside0 (w'.heap[gb205]? = some (.cells #[.int .i64 x206000_1, .int .i64 0] 30 (0, 0))) ∧ Aside0 (Below w.heap.size w w'))
    case atStart => exact ⟨(0), H', ⟨Nat.le_refl _⟩, ⟨by (with_reducible repeat (first | refine blk_drewN ?_ _ | refine blk_drew ?_ | refine blk_alloc ?_ _)); refine blk_far ?_ NB204_205.out _; (with_reducible repeat (first | refine blk_drewN ?_ _ | refine blk_drew ?_ | refine blk_alloc ?_ _)); refine blk_far ?_ NB204_205.out _; (with_reducible repeat (first | refine blk_drewN ?_ _ | refine blk_drew ?_ | refine blk_alloc ?_ _)); exact BK204.out⟩, ⟨by (with_reducible repeat (first | refine blk_drewN ?_ _ | refine blk_drew ?_ | refine blk_alloc ?_ _)); refine blk_put (cs := #[.int .i64 0, .int .i64 0]) ?_ 1 _ rfl; (with_reducible repeat (first | refine blk_drewN ?_ _ | refine blk_drew ?_ | refine blk_alloc ?_ _)); refine blk_put (cs := #[.int .i64 0, .int .i64 0]) ?_ 0 _ rfl; (with_reducible repeat (first | refine blk_drewN ?_ _ | refine blk_drew ?_ | refine blk_alloc ?_ _)); exact BK205.out⟩, ⟨by repeat (first | (with_reducible first | exact HB.out | apply below_alloc | apply pw_below_drewN | apply below_drew1 | refine below_set ?_ GE204.out | refine below_set ?_ GE205.out) | exact HB.out)⟩⟩
    case round =>
      clear H'
      try clear c1
      try clear p2
      try clear c7
      try clear hcz8_0
      try clear hcz8_1
      try clear hfz8_0
      try clear hfz8_1
      obtain ⟨x206000_1, HA, HK1, BK204, BK205, HB⟩ := hrel
      cases gk with
      | zero => exact absurd HA.out (by simp [scholiastref04_Touched.l0])
      | succ k1 =>
        have H := HA.out
        clear HA
        simp only [scholiastref04_Touched.l0] at H
        by_cases c9 : x206000_1 < (l0.length : Int)
        · rw [if_pos c9] at H
          have c9b0 : decide (x206000_1 < (l0.length : Int)) = true := decide_eq_true c9
          clear c9
          (first | rw [c9b0] | (simp only [i64_w, i32_w]; rw [c9b0]) | rw [c9b1] | skip)
          by_cases c10 : 0 ≤ x206000_1
          · rw [if_pos c10] at H
            have c10b0 : decide (0 ≤ x206000_1) = true := decide_eq_true c10
            clear c10
            by_cases c11 : ((rd_T30 l0 x206000_1).f1) ≤ a1
            · rw [if_pos c11] at H
              have c11b0 : decide (((rd_T30 l0 x206000_1).f1) ≤ a1) = true := decide_eq_true c11
              clear c11
              have H' := Aside0.mk H
              clear H
              have hnb12 := NB205_204.out
              have hnc12 := NB204_205.out
              have hcz13_0 : wr.cell? ⟨gb205, 0, none⟩ = some (.int .i64 x206000_1) := (blk_cell BK205.out 0).trans rfl
              have hcz13_1 : wr.cell? ⟨gb205, 1, none⟩ = some (.int .i64 0) := (blk_cell BK205.out 1).trans rfl
              have hfz13_0 := blk_frozen BK205.out 0
              have hfz13_1 := blk_frozen BK205.out 1
              have p206 : 0 ≤ (x206000_1 : Int) := of_decide_eq_true (by first | (with_reducible assumption) | assumption)
              have q206 : x206000_1 < (l0.length : Int) := of_decide_eq_true (by first | (with_reducible assumption) | assumption)
              obtain ⟨ad206, e206, hx206_0, hx206_1⟩ := at_T30 HR0.out x206000_1 p206 q206
              cases e206
              replace hx206_0 := (HB.out.cell (World.block_lt_of_cell? w _ hx206_0)).trans hx206_0
              replace hx206_1 := (HB.out.cell (World.block_lt_of_cell? w _ hx206_1)).trans hx206_1
              replace p206 := eq_true p206
              replace q206 := eq_true q206
              go_wp2
              go_roundg k1
              case measure => have := HK1.out; omega
              case rel => exact ⟨(wrap64 (x206000_1 + 1)), H', ⟨by have := HK1.out; omega⟩, ⟨by (with_reducible repeat (first | refine blk_drewN ?_ _ | refine blk_drew ?_ | refine blk_alloc ?_ _)); refine blk_far ?_ NB204_205.out _; (with_reducible repeat (first | refine blk_drewN ?_ _ | refine blk_drew ?_ | refine blk_alloc ?_ _)); exact BK204.out⟩, ⟨by (with_reducible repeat (first | refine blk_drewN ?_ _ | refine blk_drew ?_ | refine blk_alloc ?_ _)); refine blk_put (cs := #[.int .i64 x206000_1, .int .i64 0]) ?_ 0 _ rfl; (with_reducible repeat (first | refine blk_drewN ?_ _ | refine blk_drew ?_ | refine blk_alloc ?_ _)); exact BK205.out⟩, ⟨by repeat (first | (with_reducible first | exact HB.out | apply below_alloc | apply pw_below_drewN | apply below_drew1 | refine below_set ?_ GE204.out | refine below_set ?_ GE205.out) | exact HB.out)⟩⟩
            · rw [if_neg c11] at H
              have c11b0 : decide (((rd_T30 l0 x206000_1).f1) ≤ a1) = false := decide_eq_false c11
              clear c11
              have H' := Aside0.mk H
              clear H
              have hnb14 := NB205_204.out
              have hnc14 := NB204_205.out
              have hcz15_0 : wr.cell? ⟨gb205, 0, none⟩ = some (.int .i64 x206000_1) := (blk_cell BK205.out 0).trans rfl
              have hcz15_1 : wr.cell? ⟨gb205, 1, none⟩ = some (.int .i64 0) := (blk_cell BK205.out 1).trans rfl
              have hfz15_0 := blk_frozen BK205.out 0
              have hfz15_1 := blk_frozen BK205.out 1
              have p206 : 0 ≤ (x206000_1 : Int) := of_decide_eq_true (by first | (with_reducible assumption) | assumption)
              have q206 : x206000_1 < (l0.length : Int) := of_decide_eq_true (by first | (with_reducible assumption) | assumption)
              obtain ⟨ad206, e206, hx206_0, hx206_1⟩ := at_T30 HR0.out x206000_1 p206 q206
              cases e206
              replace hx206_0 := (HB.out.cell (World.block_lt_of_cell? w _ hx206_0)).trans hx206_0
              replace hx206_1 := (HB.out.cell (World.block_lt_of_cell? w _ hx206_1)).trans hx206_1
              replace p206 := eq_true p206
              replace q206 := eq_true q206
              go_wp2
              go_meet
              case rel => exact ⟨_, (x206000_1), H', ⟨by have := HK1.out; first | omega | exact Nat.le_refl _⟩, ⟨by (with_reducible repeat (first | refine blk_drewN ?_ _ | refine blk_drew ?_ | refine blk_alloc ?_ _)); exact BK204.out⟩, ⟨by (with_reducible repeat (first | refine blk_drewN ?_ _ | refine blk_drew ?_ | refine blk_alloc ?_ _)); exact BK205.out⟩, ⟨by repeat (first | (with_reducible first | exact HB.out | apply below_alloc | apply pw_below_drewN | apply below_drew1 | refine below_set ?_ GE204.out | refine below_set ?_ GE205.out) | exact HB.out)⟩⟩
          · rw [if_neg c10] at H
            exact absurd H (by simp)
        · rw [if_neg c9] at H
          have c9b0 : decide (x206000_1 < (l0.length : Int)) = false := decide_eq_false c9
          clear c9
          (first | rw [c9b0] | (simp only [i64_w, i32_w]; rw [c9b0]) | rw [c9b1] | skip)
          have H' := Aside0.mk H
          clear H
          have hnb16 := NB205_204.out
          have hnc16 := NB204_205.out
          have hcz17_0 : wr.cell? ⟨gb205, 0, none⟩ = some (.int .i64 x206000_1) := (blk_cell BK205.out 0).trans rfl
          have hcz17_1 : wr.cell? ⟨gb205, 1, none⟩ = some (.int .i64 0) := (blk_cell BK205.out 1).trans rfl
          have hfz17_0 := blk_frozen BK205.out 0
          have hfz17_1 := blk_frozen BK205.out 1
          go_wp2
          go_meet
          case rel => exact ⟨_, (x206000_1), H', ⟨by have := HK1.out; first | omega | exact Nat.le_refl _⟩, ⟨by (with_reducible repeat (first | refine blk_drewN ?_ _ | refine blk_drew ?_ | refine blk_alloc ?_ _)); exact BK204.out⟩, ⟨by (with_reducible repeat (first | refine blk_drewN ?_ _ | refine blk_drew ?_ | refine blk_alloc ?_ _)); exact BK205.out⟩, ⟨by repeat (first | (with_reducible first | exact HB.out | apply below_alloc | apply pw_below_drewN | apply below_drew1 | refine below_set ?_ GE204.out | refine below_set ?_ GE205.out) | exact HB.out)⟩⟩
  case rest =>
    clear HC4
    try clear c1
    try clear p2
    try clear q2
    try clear hx2
    try clear p6
    try clear c7
    try clear c9
    try clear c9b0
    try clear c9b1
    try clear c10
    try clear c10b0
    try clear c11
    try clear c11b0
    try clear c12
    try clear c14
    try clear c16
    try clear hcz13_0
    try clear hcz13_1
    try clear hcz15_0
    try clear hcz15_1
    try clear hcz17_0
    try clear hcz17_1
    try clear hcz8_0
    try clear hcz8_1
    try clear hfz13_0
    try clear hfz13_1
    try clear hfz15_0
    try clear hfz15_1
    try clear hfz17_0
    try clear hfz17_1
    try clear hfz8_0
    try clear hfz8_1
    try clear hx206_0
    try clear hx206_1
    try clear p2
    try clear p206
    try clear q206
    obtain ⟨kq, x206000_3, HA, HJ3, BK204, BK205, HB⟩ := hcut
    cases kq with
    | zero => exact absurd HA.out (by simp [scholiastref04_Touched.j1])
    | succ kj3 =>
      have H := HA.out
      clear HA
      simp only [scholiastref04_Touched.j1] at H
      have H' := Aside0.mk H
      clear H
      have hnb18 := NB205_204.out
      have hnc18 := NB204_205.out
      have hcz19_0 : wc.cell? ⟨gb205, 0, none⟩ = some (.int .i64 x206000_3) := (blk_cell BK205.out 0).trans rfl
      have hcz19_1 : wc.cell? ⟨gb205, 1, none⟩ = some (.int .i64 0) := (blk_cell BK205.out 1).trans rfl
      have hfz19_0 := blk_frozen BK205.out 0
      have hfz19_1 := blk_frozen BK205.out 1
      go_wp2
      go_loopg [] kj3 (fun kq w' => ∃ (x206001_2 : Int), Aside0 (scholiastref04_Touched.l1 kq l0 a2 x206000_3 x206001_2 = some (r1, r2)) ∧ Aside0 (kq ≤ kj3) ∧ Aside0 (w'.heap[gb204]? = some (.cells #[.int .i64 0, .int .i64 0] 30 (0, 0))) ∧ Aside0 (w'.heap[gb205]? = some (.cells #[.int .i64 x206000_3, .int .i64 x206001_2] 30 (0, 0))) ∧ Aside0 (Below w.heap.size w w'))
      case atStart => exact ⟨(x206000_3), H', ⟨Nat.le_refl _⟩, ⟨by (with_reducible repeat (first | refine blk_drewN ?_ _ | refine blk_drew ?_ | refine blk_alloc ?_ _)); refine blk_far ?_ NB204_205.out _; (with_reducible repeat (first | refine blk_drewN ?_ _ | refine blk_drew ?_ | refine blk_alloc ?_ _)); exact BK204.out⟩, ⟨by (with_reducible repeat (first | refine blk_drewN ?_ _ | refine blk_drew ?_ | refine blk_alloc ?_ _)); refine blk_put (cs := #[.int .i64 x206000_3, .int .i64 0]) ?_ 1 _ rfl; (with_reducible repeat (first | refine blk_drewN ?_ _ | refine blk_drew ?_ | refine blk_alloc ?_ _)); exact BK205.out⟩, ⟨by repeat (first | (with_reducible first | exact HB.out | apply below_alloc | apply pw_below_drewN | apply below_drew1 | refine below_set ?_ GE204.out | refine below_set ?_ GE205.out) | exact HB.out)⟩⟩
      case round =>
        clear H'
        try clear c1
        try clear p2
        try clear q2
        try clear hx2
        try clear p6
        try clear c7
        try clear c9
        try clear c9b0
        try clear c9b1
        try clear c10
        try clear c10b0
        try clear c11
        try clear c11b0
        try clear c12
        try clear c14
        try clear c16
        try clear c18
        try clear hcz13_0
        try clear hcz13_1
        try clear hcz15_0
        try clear hcz15_1
        try clear hcz17_0
        try clear hcz17_1
        try clear hcz19_0
        try clear hcz19_1
        try clear hcz8_0
        try clear hcz8_1
        try clear hfz13_0
        try clear hfz13_1
        try clear hfz15_0
        try clear hfz15_1
        try clear hfz17_0
        try clear hfz17_1
        try clear hfz19_0
        try clear hfz19_1
        try clear hfz8_0
        try clear hfz8_1
        try clear hx206_0
        try clear hx206_1
        try clear p2
        try clear p206
        try clear p6
        try clear q2
        try clear q206
        obtain ⟨x206001_2, HA, HK2, BK204, BK205, HB⟩ := hrel
        cases gk with
        | zero => exact absurd HA.out (by simp [scholiastref04_Touched.l1])
        | succ k2 =>
          have H := HA.out
          clear HA
          simp only [scholiastref04_Touched.l1] at H
          by_cases c20 : x206001_2 < (l0.length : Int)
          · rw [if_pos c20] at H
            have c20b0 : decide (x206001_2 < (l0.length : Int)) = true := decide_eq_true c20
            clear c20
            by_cases c21 : 0 ≤ x206001_2
            · rw [if_pos c21] at H
              have c21b0 : decide (0 ≤ x206001_2) = true := decide_eq_true c21
              clear c21
              by_cases c22 : ((rd_T30 l0 x206001_2).f0) < a2
              · rw [if_pos c22] at H
                have c22b0 : decide (((rd_T30 l0 x206001_2).f0) < a2) = true := decide_eq_true c22
                clear c22
                have H' := Aside0.mk H
                clear H
                have hnb23 := NB205_204.out
                have hnc23 := NB204_205.out
                have hcz24_0 : wr.cell? ⟨gb205, 0, none⟩ = some (.int .i64 x206000_3) := (blk_cell BK205.out 0).trans rfl
                have hcz24_1 : wr.cell? ⟨gb205, 1, none⟩ = some (.int .i64 x206001_2) := (blk_cell BK205.out 1).trans rfl
                have hfz24_0 := blk_frozen BK205.out 0
                have hfz24_1 := blk_frozen BK205.out 1
                have p207 : 0 ≤ (x206001_2 : Int) := of_decide_eq_true (by first | (with_reducible assumption) | assumption)
                have q207 : x206001_2 < (l0.length : Int) := of_decide_eq_true (by first | (with_reducible assumption) | assumption)
                obtain ⟨ad207, e207, hx207_0, hx207_1⟩ := at_T30 HR0.out x206001_2 p207 q207
                cases e207
                replace hx207_0 := (HB.out.cell (World.block_lt_of_cell? w _ hx207_0)).trans hx207_0
                replace hx207_1 := (HB.out.cell (World.block_lt_of_cell? w _ hx207_1)).trans hx207_1
                replace p207 := eq_true p207
                replace q207 := eq_true q207
                go_wp2
                go_roundg k2
                case measure => have := HJ3.out; have := HK2.out; omega
                case rel => exact ⟨(wrap64 (x206001_2 + 1)), H', ⟨by have := HJ3.out; have := HK2.out; omega⟩, ⟨by (with_reducible repeat (first | refine blk_drewN ?_ _ | refine blk_drew ?_ | refine blk_alloc ?_ _)); refine blk_far ?_ NB204_205.out _; (with_reducible repeat (first | refine blk_drewN ?_ _ | refine blk_drew ?_ | refine blk_alloc ?_ _)); exact BK204.out⟩, ⟨by (with_reducible repeat (first | refine blk_drewN ?_ _ | refine blk_drew ?_ | refine blk_alloc ?_ _)); refine blk_put (cs := #[.int .i64 x206000_3, .int .i64 x206001_2]) ?_ 1 _ rfl; (with_reducible repeat (first | refine blk_drewN ?_ _ | refine blk_drew ?_ | refine blk_alloc ?_ _)); exact BK205.out⟩, ⟨by repeat (first | (with_reducible first | exact HB.out | apply below_alloc | apply pw_below_drewN | apply below_drew1 | refine below_set ?_ GE204.out | refine below_set ?_ GE205.out) | exact HB.out)⟩⟩
              · rw [if_neg c22] at H
                have c22b0 : decide (((rd_T30 l0 x206001_2).f0) < a2) = false := decide_eq_false c22
                clear c22
                simp only [Option.some.injEq, Prod.mk.injEq] at H
                obtain ⟨rfl, rfl⟩ := H
                have hnb25 := NB205_204.out
                have hnc25 := NB204_205.out
                have hcz26_0 : wr.cell? ⟨gb205, 0, none⟩ = some (.int .i64 x206000_3) := (blk_cell BK205.out 0).trans rfl
                have hcz26_1 : wr.cell? ⟨gb205, 1, none⟩ = some (.int .i64 x206001_2) := (blk_cell BK205.out 1).trans rfl
                have hfz26_0 := blk_frozen BK205.out 0
                have hfz26_1 := blk_frozen BK205.out 1
                have p207 : 0 ≤ (x206001_2 : Int) := of_decide_eq_true (by first | (with_reducible assumption) | assumption)
                have q207 : x206001_2 < (l0.length : Int) := of_decide_eq_true (by first | (with_reducible assumption) | assumption)
                obtain ⟨ad207, e207, hx207_0, hx207_1⟩ := at_T30 HR0.out x206001_2 p207 q207
                cases e207
                replace hx207_0 := (HB.out.cell (World.block_lt_of_cell? w _ hx207_0)).trans hx207_0
                replace hx207_1 := (HB.out.cell (World.block_lt_of_cell? w _ hx207_1)).trans hx207_1
                replace p207 := eq_true p207
                replace q207 := eq_true q207
                have hcz27_0 : wr.cell? ⟨gb204, 0, none⟩ = some (.int .i64 0) := (blk_cell BK204.out 0).trans rfl
                have hcz27_1 : wr.cell? ⟨gb204, 1, none⟩ = some (.int .i64 0) := (blk_cell BK204.out 1).trans rfl
                have hfz27_0 := blk_frozen BK204.out 0
                have hfz27_1 := blk_frozen BK204.out 1
                go_wp2
                refine bodyPost_ret (results_cell_row rfl _ _ gb204 30 #[.int .i64 x206000_3, .int .i64 x206001_2] (0, 0) _ rfl (by (with_reducible repeat (first | refine blk_drewN ?_ _ | refine blk_drew ?_ | refine blk_alloc ?_ _)); refine blk_put (cs := #[.int .i64 x206000_3, .int .i64 0]) ?_ 1 _ rfl; (with_reducible repeat (first | refine blk_drewN ?_ _ | refine blk_drew ?_ | refine blk_alloc ?_ _)); refine blk_put (cs := #[.int .i64 0, .int .i64 0]) ?_ 0 _ rfl; (with_reducible repeat (first | refine blk_drewN ?_ _ | refine blk_drew ?_ | refine blk_alloc ?_ _)); exact BK204.out) Try.underlying30 rfl (by kernel_rfl)) rfl ?_
                exact ⟨by first | rfl | (simp [errW_none, errW_some] <;> rfl) | (simp [*, errW_none, errW_some] <;> rfl), by repeat (first | (with_reducible first | exact HB.out | apply below_alloc | apply pw_below_drewN | apply below_drew1 | refine below_set ?_ GE204.out | refine below_set ?_ GE205.out) | exact HB.out)⟩
            · rw [if_neg c21] at H
              exact absurd H (by simp)
          · rw [if_neg c20] at H
            have c20b0 : decide (x206001_2 < (l0.length : Int)) = false := decide_eq_false c20
            clear c20
            simp only [Option.some.injEq, Prod.mk.injEq] at H
            obtain ⟨rfl, rfl⟩ := H
            have hnb28 := NB205_204.out
            have hnc28 := NB204_205.out
            have hcz29_0 : wr.cell? ⟨gb205, 0, none⟩ = some (.int .i64 x206000_3) := (blk_cell BK205.out 0).trans rfl
            have hcz29_1 : wr.cell? ⟨gb205, 1, none⟩ = some (.int .i64 x206001_2) := (blk_cell BK205.out 1).trans rfl
            have hfz29_0 := blk_frozen BK205.out 0
            have hfz29_1 := blk_frozen BK205.out 1
            have hcz30_0 : wr.cell? ⟨gb204, 0, none⟩ = some (.int .i64 0) := (blk_cell BK204.out 0).trans rfl
            have hcz30_1 : wr.cell? ⟨gb204, 1, none⟩ = some (.int .i64 0) := (blk_cell BK204.out 1).trans rfl
            have hfz30_0 := blk_frozen BK204.out 0
            have hfz30_1 := blk_frozen BK204.out 1
            go_wp2
            refine bodyPost_ret (results_cell_row rfl _ _ gb204 30 #[.int .i64 x206000_3, .int .i64 x206001_2] (0, 0) _ rfl (by (with_reducible repeat (first | refine blk_drewN ?_ _ | refine blk_drew ?_ | refine blk_alloc ?_ _)); refine blk_put (cs := #[.int .i64 x206000_3, .int .i64 0]) ?_ 1 _ rfl; (with_reducible repeat (first | refine blk_drewN ?_ _ | refine blk_drew ?_ | refine blk_alloc ?_ _)); refine blk_put (cs := #[.int .i64 0, .int .i64 0]) ?_ 0 _ rfl; (with_reducible repeat (first | refine blk_drewN ?_ _ | refine blk_drew ?_ | refine blk_alloc ?_ _)); exact BK204.out) Try.underlying30 rfl (by kernel_rfl)) rfl ?_
            exact ⟨by first | rfl | (simp [errW_none, errW_some] <;> rfl) | (simp [*, errW_none, errW_some] <;> rfl), by repeat (first | (with_reducible first | exact HB.out | apply below_alloc | apply pw_below_drewN | apply below_drew1 | refine below_set ?_ GE204.out | refine below_set ?_ GE205.out) | exact HB.out)⟩

/-! ### scholiastlaw04_ChunkTouched: function 5 -/
def scholiastlaw04_ChunkTouched.f (k : Nat) (l0 : List (S30)) (a1 : Int) (a2 : Int) : Option (Bool) := (scholiastlaw04_shown.f k).bind fun t208 => (if t208 = true then (if ([] : List (S30)).length + l0.length < 8796093022208 then ((some (([] : List (S30)) ++ l0 : List (S30))).bind fun y209 => ((chunk_Touched.f k y209 a1 a2).bind fun bt212 => ((scholiastref04_Touched.f k l0 a1 a2).bind fun bt214 => (if (bt212.1 == bt214.1 && (bt212.2 == bt214.2)) = true then ((scholiastlaw04_spans.f k y209 l0).bind fun t216 => (some t216)) else (some false))))) else (none)) else (some false))
theorem scholiastlaw04_ChunkTouched.mono : ∀ a0 a1 a2 k, LeO (scholiastlaw04_ChunkTouched.f k a0 a1 a2) (scholiastlaw04_ChunkTouched.f (k + 1) a0 a1 a2) := by
  intro a0 a1 a2 k
  unfold scholiastlaw04_ChunkTouched.f
  repeat' first
      | (with_reducible exact chunk_Touched.mono _ _ _ _)
      | (with_reducible exact scholiastlaw04_shown.mono _)
      | (with_reducible exact scholiastlaw04_spans.mono _ _ _)
      | (with_reducible exact scholiastref04_Touched.mono _ _ _ _)
      | (with_reducible exact LeO.refl _)
      | (with_reducible exact LeO.none _)
      | (with_reducible refine LeO.ite ?_ ?_)
      | (with_reducible refine LeO.bind ?_ (fun _ => ?_))
      | exact chunk_Touched.mono _ _ _ _
      | exact scholiastlaw04_shown.mono _
      | exact scholiastlaw04_spans.mono _ _ _
      | exact scholiastref04_Touched.mono _ _ _ _
      | exact LeO.none _
      | refine LeO.ite ?_ ?_
      | refine LeO.bind ?_ (fun _ => ?_)
set_option maxHeartbeats 8000000 in
set_option maxRecDepth 100000 in
theorem scholiastlaw04_ChunkTouched.calls (k : Nat) (A0 : Option Addr) (c0 : Nat) (l0 : List (S30)) (a1 : Int) (a2 : Int) (r : Bool) (w : World) (hr0 : Kd.C k30 w A0 l0.length l0) (hc0 : l0.length ≤ c0) (h : scholiastlaw04_ChunkTouched.f k l0 a1 a2 = some r) :
    Calls Try.prog 5 #[.slice A0 l0.length c0, .int .i64 a1, .int .i64 a2] w fun e w' => e = .returned (.bool r) ∧ Below w.heap.size w w' := by
  have HR0 := Aside0.mk hr0
  have HC0 := Aside0.mk hc0
  clear hr0 hc0
  have HB := Aside0.mk (Below.refl w.heap.size w)
  have H : ((scholiastlaw04_shown.f k).bind fun t208 => (if t208 = true then (if ([] : List (S30)).length + l0.length < 8796093022208 then ((some (([] : List (S30)) ++ l0 : List (S30))).bind fun y209 => ((chunk_Touched.f k y209 a1 a2).bind fun bt212 => ((scholiastref04_Touched.f k l0 a1 a2).bind fun bt214 => (if (bt212.1 == bt214.1 && (bt212.2 == bt214.2)) = true then ((scholiastlaw04_spans.f k y209 l0).bind fun t216 => (some t216)) else (some false))))) else (none)) else (some false))) = some r := h
  clear h
  replace H := Option.bind_eq_some_iff.mp H
  obtain ⟨t208, A40, H⟩ := H
  replace H : (if t208 = true then (if ([] : List (S30)).length + l0.length < 8796093022208 then ((some (([] : List (S30)) ++ l0 : List (S30))).bind fun y209 => ((chunk_Touched.f k y209 a1 a2).bind fun bt212 => ((scholiastref04_Touched.f k l0 a1 a2).bind fun bt214 => (if (bt212.1 == bt214.1 && (bt212.2 == bt214.2)) = true then ((scholiastlaw04_spans.f k y209 l0).bind fun t216 => (some t216)) else (some false))))) else (none)) else (some false)) = some r := H
  have A4 := Aside0.mk A40
  clear A40
  by_cases c5 : t208 = true
  · subst c5
    have H1 : (if ([] : List (S30)).length + l0.length < 8796093022208 then ((some (([] : List (S30)) ++ l0 : List (S30))).bind fun y209 => ((chunk_Touched.f k y209 a1 a2).bind fun bt212 => ((scholiastref04_Touched.f k l0 a1 a2).bind fun bt214 => (if (bt212.1 == bt214.1 && (bt212.2 == bt214.2)) = true then ((scholiastlaw04_spans.f k y209 l0).bind fun t216 => (some t216)) else (some false))))) else (none)) = some r := by rw [if_pos rfl] at H; exact H
    clear H
    have H := H1
    clear H1
    by_cases c6 : ([] : List (S30)).length + l0.length < 8796093022208
    · rw [if_pos c6] at H
      have LMc6 := Aside0.mk c6
      clear c6
      obtain ⟨y209, hy209⟩ : ∃ y_ : List (S30), y_ = (([] : List (S30)) ++ l0) := ⟨_, rfl⟩
      replace H : ((chunk_Touched.f k y209 a1 a2).bind fun bt212 => ((scholiastref04_Touched.f k l0 a1 a2).bind fun bt214 => (if (bt212.1 == bt214.1 && (bt212.2 == bt214.2)) = true then ((scholiastlaw04_spans.f k y209 l0).bind fun t216 => (some t216)) else (some false)))) = some r := by first | (rw [hy209]; with_reducible exact H) | (have H2_ := (Option.bind_some _ _).symm.trans H; rw [hy209]; with_reducible exact H2_) | (have H2_ := (Option.bind_some _ _).symm.trans H; with_reducible exact H2_) | with_reducible exact H | (rw [hy209]; exact H) | exact H
      have Ny209 := Aside0.mk hy209
      clear hy209
      replace H := Option.bind_eq_some_iff.mp H
      obtain ⟨⟨t212, t213⟩, A70, H⟩ := H
      replace H : ((scholiastref04_Touched.f k l0 a1 a2).bind fun bt214 => (if (t212 == bt214.1 && (t213 == bt214.2)) = true then ((scholiastlaw04_spans.f k y209 l0).bind fun t216 => (some t216)) else (some false))) = some r := H
      have A7 := Aside0.mk A70
      clear A70
      replace H := Option.bind_eq_some_iff.mp H
      obtain ⟨⟨t214, t215⟩, A80, H⟩ := H
      replace H : (if (t212 == t214 && (t213 == t215)) = true then ((scholiastlaw04_spans.f k y209 l0).bind fun t216 => (some t216)) else (some false)) = some r := H
      have A8 := Aside0.mk A80
      clear A80
      by_cases c9 : (t212 == t214 && (t213 == t215)) = true
      · rw [if_pos c9] at H
        have c9b0 : (t212 == t214 && (t213 == t215)) = true := c9
        (try (have c9b1 : decide (t212 = t214 && (t213 == t215)) = true := by simpa using c9))
        (try (have c9b2 : (t212 == t214 && (t213 == t215)) = true := by simpa using c9))
        clear c9
        replace H := Option.bind_eq_some_iff.mp H
        obtain ⟨t216, A100, H⟩ := H
        replace H : (some t216) = some r := H
        have A10 := Aside0.mk A100
        clear A100
        obtain rfl := Option.some.inj H
        go_enter Try.func5, Try.ntmps5
        go_wp2_with (first | ((with_reducible refine gate_callee (f := 9) rfl ?_); refine goesL_ (some 8) rfl rfl Try.func9 (by kernel_rfl) rfl #[] rfl (by (try simp only [List.map_toArray, List.map_cons, List.map_nil]); first | done | rfl | (simp only [List.length_drop, List.length_take]; rfl)) ?_; (with_reducible refine (scholiastlaw04_shown.calls k  true _ A4.out).mono ?_); rintro e w11 ⟨rfl, hb⟩; refine ⟨_, rfl, ?_⟩; have n0_ := Aside0.mk (below_step (by repeat (first | (with_reducible first | exact HB.out | apply below_alloc | apply pw_below_drewN | apply below_drew1) | exact HB.out)) hb); clear HB; have HB := n0_; clear n0_; (try clear hb); (try clear hb2); (try clear hk); (try clear hi)) | ((with_reducible refine gate_builtin (b := .append) (xs := #[.const (.slice none 0 0), .tmp 10]) rfl ?_); at_builtin; refine Kd.R_append_rows k30 (w0 := w) w.heap.size rfl (.const (.slice none 0 0)) (.tmp 10) 26 30 (.agg #[(.int .i64 0), (.int .i64 0)]) 16 rfl Try.underlying26 info30 rfl (by decide) (by omega) (.slice none 0 0) ([] : List (S30)) l0 _ _ _ (fun _ => True) (fun _ => False) rfl rfl ?aO ?aR (fun _ _ h => h) (fun _ h => h.elim) ?aF ?aB ?aS ?aL ?_; (case aR => repeat (first | exact (Kd.C_below HR0.out HB.out) | (with_reducible refine Kd.C_alloc ?_ _) | (with_reducible refine Kd.C_drewN ?_ _) | (with_reducible refine Kd.C_drew ?_))); (case aB => exact (by repeat (first | (with_reducible first | exact HB.out | apply below_alloc | apply pw_below_drewN | apply below_drew1) | exact HB.out))); (case aF => exact (fun _ _ => trivial)); (case aO => exact ((Kd.R_nil _ _ _ _ (fun _ => True)))); (case aS => exact (below_size (by repeat (first | (with_reducible first | exact HB.out | apply below_alloc | apply pw_below_drewN | apply below_drew1) | exact HB.out)))); (case aL => have := LMc6.out; omega); intro v210 w12 ho hb hg hat; rw [← Ny209.out] at ho; have n0_ := Aside0.mk (hb); have n1_ := Aside0.mk (ho); clear HB; have HB := n0_; have HO211 := n1_; clear n0_ n1_; clear ho hb hg hat; obtain ⟨Ao13, co13, eo13⟩ := Kd.R_slice HO211.out; subst eo13) | ((with_reducible refine gate_callee (f := 15) rfl ?_); refine goesL_ (some 15) rfl rfl Try.func15 (by kernel_rfl) rfl #[.slice Ao13 y209.length co13, .int .i64 a1, .int .i64 a2] rfl (by (try simp only [List.map_toArray, List.map_cons, List.map_nil]); first | done | rfl | (simp only [List.length_drop, List.length_take]; rfl)) ?_; (with_reducible refine (chunk_Touched.calls k _ _ y209 a1 a2 t212 t213 _ ?side1 ?side2 A7.out).mono ?_); (case side1 => repeat (first | exact (Kd.R_reads' HO211.out).2.2 | (with_reducible refine Kd.C_alloc ?_ _) | (with_reducible refine Kd.C_drewN ?_ _) | (with_reducible refine Kd.C_drew ?_))); (case side2 => exact (Kd.R_reads' HO211.out).2.1); rintro e w14 ⟨rfl, hb⟩; refine ⟨_, rfl, ?_⟩; have n0_ := Aside0.mk (Kd.R_below (by (with_reducible repeat (first | apply Kd.R_alloc | apply Kd.R_drewN | apply Kd.R_drew)); exact HO211.out) hb); have n1_ := Aside0.mk (below_step (by repeat (first | (with_reducible first | exact HB.out | apply below_alloc | apply pw_below_drewN | apply below_drew1) | exact HB.out)) hb); clear HO211; clear HB; have HO211 := n0_; have HB := n1_; clear n0_ n1_; (try clear hb); (try clear hb2); (try clear hk); (try clear hi)) | ((with_reducible refine gate_callee (f := 16) rfl ?_); refine goesL_ (some 19) rfl rfl Try.func16 (by kernel_rfl) rfl #[.slice A0 l0.length c0, .int .i64 a1, .int .i64 a2] rfl (by (try simp only [List.map_toArray, List.map_cons, List.map_nil]); first | done | rfl | (simp only [List.length_drop, List.length_take]; rfl)) ?_; (with_reducible refine (scholiastref04_Touched.calls k _ _ l0 a1 a2 t214 t215 _ ?side1 ?side2 A8.out).mono ?_); (case side1 => repeat (first | exact (Kd.C_below HR0.out HB.out) | (with_reducible refine Kd.C_alloc ?_ _) | (with_reducible refine Kd.C_drewN ?_ _) | (with_reducible refine Kd.C_drew ?_))); (case side2 => exact HC0.out); rintro e w15 ⟨rfl, hb⟩; refine ⟨_, rfl, ?_⟩; have n0_ := Aside0.mk (Kd.R_below (by (with_reducible repeat (first | apply Kd.R_alloc | apply Kd.R_drewN | apply Kd.R_drew)); exact HO211.out) hb); have n1_ := Aside0.mk (below_step (by repeat (first | (with_reducible first | exact HB.out | apply below_alloc | apply pw_below_drewN | apply below_drew1) | exact HB.out)) hb); clear HO211; clear HB; have HO211 := n0_; have HB := n1_; clear n0_ n1_; (try clear hb); (try clear hb2); (try clear hk); (try clear hi)) | (go_at_call 12; (with_reducible refine (scholiastlaw04_spans.calls k _ _ y209 _ _ l0 t216 _ ?side1 ?side2 ?side3 ?side4 A10.out).mono ?_); (case side1 => repeat (first | exact (Kd.R_reads' HO211.out).2.2 | (with_reducible refine Kd.C_alloc ?_ _) | (with_reducible refine Kd.C_drewN ?_ _) | (with_reducible refine Kd.C_drew ?_))); (case side2 => exact (Kd.R_reads' HO211.out).2.1); (case side3 => repeat (first | exact (Kd.C_below HR0.out HB.out) | (with_reducible refine Kd.C_alloc ?_ _) | (with_reducible refine Kd.C_drewN ?_ _) | (with_reducible refine Kd.C_drew ?_))); (case side4 => exact HC0.out); rintro e w' ⟨rfl, ⟨nd, rfl⟩⟩))
        go_ret
        exact ⟨by first | rfl | (simp [errW_none, errW_some] <;> rfl) | (simp [*, errW_none, errW_some] <;> rfl), by repeat (first | (with_reducible first | exact HB.out | apply below_alloc | apply pw_below_drewN | apply below_drew1) | exact HB.out)⟩
      · rw [if_neg c9] at H
        have c9b0 : (t212 == t214 && (t213 == t215)) = false := by simpa using c9
        (try (have c9b1 : decide (t212 = t214 && (t213 == t215)) = false := by simpa using c9))
        (try (have c9b2 : (t212 == t214 && (t213 == t215)) = false := by simpa using c9))
        (try (have c9b3 : ¬ (t212 = t214 && (t213 == t215)) := by simpa using c9))
        clear c9
        obtain rfl := Option.some.inj H
        go_enter Try.func5, Try.ntmps5
        go_wp2_with (first | ((with_reducible refine gate_callee (f := 9) rfl ?_); refine goesL_ (some 8) rfl rfl Try.func9 (by kernel_rfl) rfl #[] rfl (by (try simp only [List.map_toArray, List.map_cons, List.map_nil]); first | done | rfl | (simp only [List.length_drop, List.length_take]; rfl)) ?_; (with_reducible refine (scholiastlaw04_shown.calls k  true _ A4.out).mono ?_); rintro e w16 ⟨rfl, hb⟩; refine ⟨_, rfl, ?_⟩; have n0_ := Aside0.mk (below_step (by repeat (first | (with_reducible first | exact HB.out | apply below_alloc | apply pw_below_drewN | apply below_drew1) | exact HB.out)) hb); clear HB; have HB := n0_; clear n0_; (try clear hb); (try clear hb2); (try clear hk); (try clear hi)) | ((with_reducible refine gate_builtin (b := .append) (xs := #[.const (.slice none 0 0), .tmp 10]) rfl ?_); at_builtin; refine Kd.R_append_rows k30 (w0 := w) w.heap.size rfl (.const (.slice none 0 0)) (.tmp 10) 26 30 (.agg #[(.int .i64 0), (.int .i64 0)]) 16 rfl Try.underlying26 info30 rfl (by decide) (by omega) (.slice none 0 0) ([] : List (S30)) l0 _ _ _ (fun _ => True) (fun _ => False) rfl rfl ?aO ?aR (fun _ _ h => h) (fun _ h => h.elim) ?aF ?aB ?aS ?aL ?_; (case aR => repeat (first | exact (Kd.C_below HR0.out HB.out) | (with_reducible refine Kd.C_alloc ?_ _) | (with_reducible refine Kd.C_drewN ?_ _) | (with_reducible refine Kd.C_drew ?_))); (case aB => exact (by repeat (first | (with_reducible first | exact HB.out | apply below_alloc | apply pw_below_drewN | apply below_drew1) | exact HB.out))); (case aF => exact (fun _ _ => trivial)); (case aO => exact ((Kd.R_nil _ _ _ _ (fun _ => True)))); (case aS => exact (below_size (by repeat (first | (with_reducible first | exact HB.out | apply below_alloc | apply pw_below_drewN | apply below_drew1) | exact HB.out)))); (case aL => have := LMc6.out; omega); intro v210 w17 ho hb hg hat; rw [← Ny209.out] at ho; have n0_ := Aside0.mk (hb); have n1_ := Aside0.mk (ho); clear HB; have HB := n0_; have HO211 := n1_; clear n0_ n1_; clear ho hb hg hat; obtain ⟨Ao18, co18, eo18⟩ := Kd.R_slice HO211.out; subst eo18) | ((with_reducible refine gate_callee (f := 15) rfl ?_); refine goesL_ (some 15) rfl rfl Try.func15 (by kernel_rfl) rfl #[.slice Ao18 y209.length co18, .int .i64 a1, .int .i64 a2] rfl (by (try simp only [List.map_toArray, List.map_cons, List.map_nil]); first | done | rfl | (simp only [List.length_drop, List.length_take]; rfl)) ?_; (with_reducible refine (chunk_Touched.calls k _ _ y209 a1 a2 t212 t213 _ ?side1 ?side2 A7.out).mono ?_); (case side1 => repeat (first | exact (Kd.R_reads' HO211.out).2.2 | (with_reducible refine Kd.C_alloc ?_ _) | (with_reducible refine Kd.C_drewN ?_ _) | (with_reducible refine Kd.C_drew ?_))); (case side2 => exact (Kd.R_reads' HO211.out).2.1); rintro e w19 ⟨rfl, hb⟩; refine ⟨_, rfl, ?_⟩; have n0_ := Aside0.mk (Kd.R_below (by (with_reducible repeat (first | apply Kd.R_alloc | apply Kd.R_drewN | apply Kd.R_drew)); exact HO211.out) hb); have n1_ := Aside0.mk (below_step (by repeat (first | (with_reducible first | exact HB.out | apply below_alloc | apply pw_below_drewN | apply below_drew1) | exact HB.out)) hb); clear HO211; clear HB; have HO211 := n0_; have HB := n1_; clear n0_ n1_; (try clear hb); (try clear hb2); (try clear hk); (try clear hi)) | ((with_reducible refine gate_callee (f := 16) rfl ?_); refine goesL_ (some 19) rfl rfl Try.func16 (by kernel_rfl) rfl #[.slice A0 l0.length c0, .int .i64 a1, .int .i64 a2] rfl (by (try simp only [List.map_toArray, List.map_cons, List.map_nil]); first | done | rfl | (simp only [List.length_drop, List.length_take]; rfl)) ?_; (with_reducible refine (scholiastref04_Touched.calls k _ _ l0 a1 a2 t214 t215 _ ?side1 ?side2 A8.out).mono ?_); (case side1 => repeat (first | exact (Kd.C_below HR0.out HB.out) | (with_reducible refine Kd.C_alloc ?_ _) | (with_reducible refine Kd.C_drewN ?_ _) | (with_reducible refine Kd.C_drew ?_))); (case side2 => exact HC0.out); rintro e w20 ⟨rfl, hb⟩; refine ⟨_, rfl, ?_⟩; have n0_ := Aside0.mk (Kd.R_below (by (with_reducible repeat (first | apply Kd.R_alloc | apply Kd.R_drewN | apply Kd.R_drew)); exact HO211.out) hb); have n1_ := Aside0.mk (below_step (by repeat (first | (with_reducible first | exact HB.out | apply below_alloc | apply pw_below_drewN | apply below_drew1) | exact HB.out)) hb); clear HO211; clear HB; have HO211 := n0_; have HB := n1_; clear n0_ n1_; (try clear hb); (try clear hb2); (try clear hk); (try clear hi)))
        go_ret
        exact ⟨by first | rfl | (simp [errW_none, errW_some] <;> rfl) | (simp [*, errW_none, errW_some] <;> rfl), by repeat (first | (with_reducible first | exact HB.out | apply below_alloc | apply pw_below_drewN | apply below_drew1) | exact HB.out)⟩
    · rw [if_neg c6] at H
      exact absurd H (by simp)
  · replace c5 := Bool.eq_false_iff.mpr c5
    subst c5
    have H1 : (some false) = some r := by rw [if_neg (show ¬ (false = true) by decide)] at H; exact H
    clear H
    have H := H1
    clear H1
    obtain rfl := Option.some.inj H
    go_enter Try.func5, Try.ntmps5
    go_wp2_with (first | ((with_reducible refine gate_callee (f := 9) rfl ?_); refine goesL_ (some 8) rfl rfl Try.func9 (by kernel_rfl) rfl #[] rfl (by (try simp only [List.map_toArray, List.map_cons, List.map_nil]); first | done | rfl | (simp only [List.length_drop, List.length_take]; rfl)) ?_; (with_reducible refine (scholiastlaw04_shown.calls k  false _ A4.out).mono ?_); rintro e w21 ⟨rfl, hb⟩; refine ⟨_, rfl, ?_⟩; have n0_ := Aside0.mk (below_step (by repeat (first | (with_reducible first | exact HB.out | apply below_alloc | apply pw_below_drewN | apply below_drew1) | exact HB.out)) hb); clear HB; have HB := n0_; clear n0_; (try clear hb); (try clear hb2); (try clear hk); (try clear hi)))
    go_ret
    exact ⟨by first | rfl | (simp [errW_none, errW_some] <;> rfl) | (simp [*, errW_none, errW_some] <;> rfl), by repeat (first | (with_reducible first | exact HB.out | apply below_alloc | apply pw_below_drewN | apply below_drew1) | exact HB.out)⟩

/-! ### scholiastlaw04_weighs: function 17 -/
def scholiastlaw04_weighs.l0 : Nat → List (S25) → Int → Int → Option (Bool)
  | 0, _, _, _ => none
  | k + 1, x5, x6, x7 => if x7 < x6 then (if 0 ≤ x7 then (if x7 < (x5.length : Int) then ((token_Trivia.f ((rd_T25 x5 x7).f0)).bind fun t219 => (if t219 = true then (scholiastlaw04_weighs.l0 k x5 x6 (wrap64 (x7 + 1))) else (some true))) else (none)) else (none)) else (some false)
def scholiastlaw04_weighs.f (k : Nat) (l0 : List (S25)) : Option (Bool) := scholiastlaw04_weighs.l0 k l0 (l0.length : Int) 0
theorem scholiastlaw04_weighs.mono_l : ∀ k, (∀ y0 y1 y2, LeO (scholiastlaw04_weighs.l0 k y0 y1 y2) (scholiastlaw04_weighs.l0 (k + 1) y0 y1 y2))
  | 0 => fun _ _ _ r h => by simp [scholiastlaw04_weighs.l0] at h
  | k + 1 => by
    have ih0 := scholiastlaw04_weighs.mono_l k
    · intro y0 y1 y2
      unfold scholiastlaw04_weighs.l0
      repeat' first
      | (with_reducible exact ih0 _ _ _)
      | (with_reducible exact LeO.refl _)
      | (with_reducible exact LeO.none _)
      | (with_reducible refine LeO.ite ?_ ?_)
      | (with_reducible refine LeO.bind ?_ (fun _ => ?_))
      | exact ih0 _ _ _
      | exact LeO.none _
      | refine LeO.ite ?_ ?_
      | refine LeO.bind ?_ (fun _ => ?_)
theorem scholiastlaw04_weighs.mono : ∀ a0 k, LeO (scholiastlaw04_weighs.f k a0) (scholiastlaw04_weighs.f (k + 1) a0) := by
  intro a0 k
  have ih0 := scholiastlaw04_weighs.mono_l k
  unfold scholiastlaw04_weighs.f
  repeat' first
      | (with_reducible exact ih0 _ _ _)
      | (with_reducible exact LeO.refl _)
      | (with_reducible exact LeO.none _)
      | (with_reducible refine LeO.ite ?_ ?_)
      | (with_reducible refine LeO.bind ?_ (fun _ => ?_))
      | exact ih0 _ _ _
      | exact LeO.none _
      | refine LeO.ite ?_ ?_
      | refine LeO.bind ?_ (fun _ => ?_)
set_option maxHeartbeats 8000000 in
set_option maxRecDepth 100000 in
theorem scholiastlaw04_weighs.calls (k : Nat) (A0 : Option Addr) (c0 : Nat) (l0 : List (S25)) (r : Bool) (w : World) (hr0 : Kd.C k25 w A0 l0.length l0) (hc0 : l0.length ≤ c0) (h : scholiastlaw04_weighs.f k l0 = some r) :
    Calls Try.prog 17 #[.slice A0 l0.length c0] w fun e w' => e = .returned (.bool r) ∧ Below w.heap.size w w' := by
  have hu25 := Try.underlying25
  have HR0 := Aside0.mk hr0
  have HC0 := Aside0.mk hc0
  clear hr0 hc0
  have HB := Aside0.mk (Below.refl w.heap.size w)
  have H : (scholiastlaw04_weighs.l0 k l0 (l0.length : Int) 0) = some r := h
  clear h
  have H' := Aside0.mk H
  clear H
  go_enter Try.func17, Try.ntmps17
  go_wp2
  go_loopg [7] k (fun kq v7 w' => ∃ (x7_1 : Int), v7 = .int .i64 x7_1 ∧ Aside0 (scholiastlaw04_weighs.l0 kq l0 (l0.length : Int) x7_1 = some r) ∧ Aside0 (kq ≤ k) ∧ Aside0 (Below w.heap.size w w'))
  case atStart => exact ⟨(0), (by first | rfl | (simp; done) | (simp [*]; done)), H', ⟨Nat.le_refl _⟩, ⟨by repeat (first | (with_reducible first | exact HB.out | apply below_alloc | apply pw_below_drewN | apply below_drew1) | exact HB.out)⟩⟩
  case round =>
    clear H'
    try clear c1
    obtain ⟨x7_1, rfl, HA, HK1, HB⟩ := hrel
    cases gk with
    | zero => exact absurd HA.out (by simp [scholiastlaw04_weighs.l0])
    | succ k1 =>
      have H := HA.out
      clear HA
      simp only [scholiastlaw04_weighs.l0] at H
      by_cases c2 : x7_1 < (l0.length : Int)
      · rw [if_pos c2] at H
        have c2b0 : decide (x7_1 < (l0.length : Int)) = true := decide_eq_true c2
        clear c2
        by_cases c3 : 0 ≤ x7_1
        · rw [if_pos c3] at H
          have c3b0 : decide (0 ≤ x7_1) = true := decide_eq_true c3
          clear c3
          by_cases c4 : x7_1 < (l0.length : Int)
          · rw [if_pos c4] at H
            have c4b0 : decide (x7_1 < (l0.length : Int)) = true := decide_eq_true c4
            clear c4
            replace H := Option.bind_eq_some_iff.mp H
            obtain ⟨t219, A50, H⟩ := H
            replace H : (if t219 = true then (scholiastlaw04_weighs.l0 k1 l0 (l0.length : Int) (wrap64 (x7_1 + 1))) else (some true)) = some r := H
            have A5 := Aside0.mk A50
            clear A50
            by_cases c6 : t219 = true
            · subst c6
              have H1 : (scholiastlaw04_weighs.l0 k1 l0 (l0.length : Int) (wrap64 (x7_1 + 1))) = some r := by rw [if_pos rfl] at H; exact H
              clear H
              have H := H1
              clear H1
              have H' := Aside0.mk H
              clear H
              have p217 : 0 ≤ (x7_1 : Int) := of_decide_eq_true (by first | (with_reducible assumption) | assumption)
              have q217 : x7_1 < (l0.length : Int) := of_decide_eq_true (by first | (with_reducible assumption) | assumption)
              obtain ⟨ad217, e217, hx217_0, hx217_1, hx217_2⟩ := at_T25 HR0.out x7_1 p217 q217
              cases e217
              replace hx217_0 := (HB.out.cell (World.block_lt_of_cell? w _ hx217_0)).trans hx217_0
              replace hx217_1 := (HB.out.cell (World.block_lt_of_cell? w _ hx217_1)).trans hx217_1
              replace hx217_2 := (HB.out.cell (World.block_lt_of_cell? w _ hx217_2)).trans hx217_2
              replace p217 := eq_true p217
              replace q217 := eq_true q217
              go_wp2_with (first | ((with_reducible refine gate_dst (N := 4) rfl ?_); refine box_event ?hg (N := 4) ?hd (cs := #[.int .i64 0, .int .i64 0, .int .i64 0]) (t := 25) ?hr ?_; (case hd => rfl); (case hg => rfl); (case hr => first | (go_simp; done) | (go_simp; rfl)); intro gb218 hg w7 hbox hb; have n0_ := Aside0.mk (below_step (by repeat (first | (with_reducible first | exact HB.out | apply below_alloc | apply pw_below_drewN | apply below_drew1) | exact HB.out)) hb); have n1_ := Aside0.mk (hbox); have n2_ := Aside0.mk ((by rw [hg]; exact (below_size (by repeat (first | (with_reducible first | exact HB.out | apply below_alloc | apply pw_below_drewN | apply below_drew1) | exact HB.out))) : w.heap.size ≤ gb218)); have n3_ := Aside0.mk ((by rw [hg]; exact (below_size (by repeat (first | (with_reducible first | exact HB.out | apply below_alloc | apply pw_below_drewN | apply below_drew1) | exact HB.out))) : w.heap.size ≤ gb218)); clear HB; have HB := n0_; have BK218 := n1_; have GW218 := n2_; have GE218 := n3_; clear n0_ n1_ n2_ n3_; clear hb hbox hg; have hcz8_0 : w7.cell? ⟨gb218, 0, none⟩ = some (.int .i64 0) := (blk_cell BK218.out 0).trans rfl; have hcz8_1 : w7.cell? ⟨gb218, 1, none⟩ = some (.int .i64 0) := (blk_cell BK218.out 1).trans rfl; have hcz8_2 : w7.cell? ⟨gb218, 2, none⟩ = some (.int .i64 0) := (blk_cell BK218.out 2).trans rfl; have hfz8_0 := blk_frozen BK218.out 0; have hfz8_1 := blk_frozen BK218.out 1; have hfz8_2 := blk_frozen BK218.out 2) | ((with_reducible refine gate_callee (f := 25) rfl ?_); refine goesL_ (some 13) rfl rfl Try.func25 (by kernel_rfl) rfl #[.int .i64 ((rd_T25 l0 x7_1).f0)] rfl (by (try simp only [List.map_toArray, List.map_cons, List.map_nil]); first | done | rfl | (simp only [List.length_drop, List.length_take]; rfl)) ?_; (with_reducible refine (token_Trivia.calls ((rd_T25 l0 x7_1).f0) true _ A5.out).mono ?_); rintro e w' ⟨rfl, ⟨nd, rfl⟩⟩; refine ⟨_, rfl, ?_⟩))
              go_roundg k1
              case measure => have := HK1.out; omega
              case rel => exact ⟨(wrap64 (x7_1 + 1)), (by first | rfl | (simp; done) | (simp [*]; done)), H', ⟨by have := HK1.out; omega⟩, ⟨by repeat (first | (with_reducible first | exact HB.out | apply below_alloc | apply pw_below_drewN | apply below_drew1 | refine below_set ?_ GE218.out) | exact HB.out)⟩⟩
            · replace c6 := Bool.eq_false_iff.mpr c6
              subst c6
              have H1 : (some true) = some r := by rw [if_neg (show ¬ (false = true) by decide)] at H; exact H
              clear H
              have H := H1
              clear H1
              obtain rfl := Option.some.inj H
              have p217 : 0 ≤ (x7_1 : Int) := of_decide_eq_true (by first | (with_reducible assumption) | assumption)
              have q217 : x7_1 < (l0.length : Int) := of_decide_eq_true (by first | (with_reducible assumption) | assumption)
              obtain ⟨ad217, e217, hx217_0, hx217_1, hx217_2⟩ := at_T25 HR0.out x7_1 p217 q217
              cases e217
              replace hx217_0 := (HB.out.cell (World.block_lt_of_cell? w _ hx217_0)).trans hx217_0
              replace hx217_1 := (HB.out.cell (World.block_lt_of_cell? w _ hx217_1)).trans hx217_1
              replace hx217_2 := (HB.out.cell (World.block_lt_of_cell? w _ hx217_2)).trans hx217_2
              replace p217 := eq_true p217
              replace q217 := eq_true q217
              go_wp2_with (first | ((with_reducible refine gate_dst (N := 4) rfl ?_); refine box_event ?hg (N := 4) ?hd (cs := #[.int .i64 0, .int .i64 0, .int .i64 0]) (t := 25) ?hr ?_; (case hd => rfl); (case hg => rfl); (case hr => first | (go_simp; done) | (go_simp; rfl)); intro gb218 hg w9 hbox hb; have n0_ := Aside0.mk (below_step (by repeat (first | (with_reducible first | exact HB.out | apply below_alloc | apply pw_below_drewN | apply below_drew1) | exact HB.out)) hb); have n1_ := Aside0.mk (hbox); have n2_ := Aside0.mk ((by rw [hg]; exact (below_size (by repeat (first | (with_reducible first | exact HB.out | apply below_alloc | apply pw_below_drewN | apply below_drew1) | exact HB.out))) : w.heap.size ≤ gb218)); have n3_ := Aside0.mk ((by rw [hg]; exact (below_size (by repeat (first | (with_reducible first | exact HB.out | apply below_alloc | apply pw_below_drewN | apply below_drew1) | exact HB.out))) : w.heap.size ≤ gb218)); clear HB; have HB := n0_; have BK218 := n1_; have GW218 := n2_; have GE218 := n3_; clear n0_ n1_ n2_ n3_; clear hb hbox hg; have hcz10_0 : w9.cell? ⟨gb218, 0, none⟩ = some (.int .i64 0) := (blk_cell BK218.out 0).trans rfl; have hcz10_1 : w9.cell? ⟨gb218, 1, none⟩ = some (.int .i64 0) := (blk_cell BK218.out 1).trans rfl; have hcz10_2 : w9.cell? ⟨gb218, 2, none⟩ = some (.int .i64 0) := (blk_cell BK218.out 2).trans rfl; have hfz10_0 := blk_frozen BK218.out 0; have hfz10_1 := blk_frozen BK218.out 1; have hfz10_2 := blk_frozen BK218.out 2) | ((with_reducible refine gate_callee (f := 25) rfl ?_); refine goesL_ (some 13) rfl rfl Try.func25 (by kernel_rfl) rfl #[.int .i64 ((rd_T25 l0 x7_1).f0)] rfl (by (try simp only [List.map_toArray, List.map_cons, List.map_nil]); first | done | rfl | (simp only [List.length_drop, List.length_take]; rfl)) ?_; (with_reducible refine (token_Trivia.calls ((rd_T25 l0 x7_1).f0) false _ A5.out).mono ?_); rintro e w' ⟨rfl, ⟨nd, rfl⟩⟩; refine ⟨_, rfl, ?_⟩))
              go_ret
              exact ⟨by first | rfl | (simp [errW_none, errW_some] <;> rfl) | (simp [*, errW_none, errW_some] <;> rfl), by repeat (first | (with_reducible first | exact HB.out | apply below_alloc | apply pw_below_drewN | apply below_drew1 | refine below_set ?_ GE218.out) | exact HB.out)⟩
          · rw [if_neg c4] at H
            exact absurd H (by simp)
        · rw [if_neg c3] at H
          exact absurd H (by simp)
      · rw [if_neg c2] at H
        have c2b0 : decide (x7_1 < (l0.length : Int)) = false := decide_eq_false c2
        clear c2
        obtain rfl := Option.some.inj H
        go_wp2
        go_ret
        exact ⟨by first | rfl | (simp [errW_none, errW_some] <;> rfl) | (simp [*, errW_none, errW_some] <;> rfl), by repeat (first | (with_reducible first | exact HB.out | apply below_alloc | apply pw_below_drewN | apply below_drew1) | exact HB.out)⟩

end Go.Proofs.Ytcejdokeaoklaaa.PChk
