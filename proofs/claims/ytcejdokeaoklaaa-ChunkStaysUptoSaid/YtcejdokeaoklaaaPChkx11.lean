-- Written by a program of this session (wip/tools/printseat.sh).
import Derived.Test.YtcejdokeaoklaaaPChkx0
import Derived.Test.YtcejdokeaoklaaaPChkx4
import Derived.Test.YtcejdokeaoklaaaPChkx6
import Derived.Test.YtcejdokeaoklaaaPChkx10
namespace Go.Proofs.Ytcejdokeaoklaaa.PChk
open Go.RowKit Go.Proofs.YtcejdokeaoklaaaW.PrintWords Go.Proofs.YtcejdokeaoklaaaW.PrintLast Go.Proofs.YtcejdokeaoklaaaW.PrintMore
attribute [local go_sem] max2_int min2_int max_two min_two max_three min_three max_four min_four   -- for this text's walks alone
set_option linter.unusedVariables false
set_option linter.unusedSimpArgs false

/-! ### scholiastlaw04_ChunkCovers: function 6 -/
mutual
def scholiastlaw04_ChunkCovers.l0 : Nat → List (S25) → Int → Int → List (S30) → Int → List (S30) → Int → Int → Option (Bool)
  | 0, _, _, _, _, _, _, _, _ => none
  | k + 1, x0, x1, x2, x7, x8, x19, x20, x21 => if x21 < x20 then (if 0 ≤ x21 then (if x21 < (x19.length : Int) then (if ((rd_T30 x19 x21).f0) = x8 then (if ((rd_T30 x19 x21).f1) ≤ ((rd_T30 x19 x21).f0) then (scholiastlaw04_ChunkCovers.j1 k x0 x1 x2 x7 x21 x19 x20 x21 true ((rd_T30 x19 x21).f0) ((rd_T30 x19 x21).f1)) else (if ((rd_T30 x19 x21).f1) > (x0.length : Int) then (scholiastlaw04_ChunkCovers.j1 k x0 x1 x2 x7 x21 x19 x20 x21 true ((rd_T30 x19 x21).f0) ((rd_T30 x19 x21).f1)) else (if 0 ≤ ((rd_T30 x19 x21).f0) then (if ((rd_T30 x19 x21).f0) ≤ ((rd_T30 x19 x21).f1) then (if ((rd_T30 x19 x21).f1) ≤ (x0.length : Int) then ((scholiastlaw04_weighs.f k ((x0.take (((rd_T30 x19 x21).f1) : Int).toNat).drop (((rd_T30 x19 x21).f0) : Int).toNat)).bind fun t230 => (scholiastlaw04_ChunkCovers.j1 k x0 x1 x2 x7 x21 x19 x20 x21 (!t230) ((rd_T30 x19 x21).f0) ((rd_T30 x19 x21).f1))) else (none)) else (none)) else (none)))) else (scholiastlaw04_ChunkCovers.j1 k x0 x1 x2 x7 x21 x19 x20 x21 true ((rd_T30 x19 x21).f0) ((rd_T30 x19 x21).f1))) else (none)) else (none)) else (if 0 ≤ x8 then (if x8 ≤ (x0.length : Int) then ((scholiastlaw04_weighs.f k (x0.drop (x8 : Int).toNat)).bind fun t236 => (if t236 = true then (some false) else (if x1 < 0 then (scholiastlaw04_ChunkCovers.j2 k x1 x2 x7 true) else (scholiastlaw04_ChunkCovers.j2 k x1 x2 x7 (decide (x1 ≥ x2)))))) else (none)) else (none))
def scholiastlaw04_ChunkCovers.j1 : Nat → List (S25) → Int → Int → List (S30) → Int → List (S30) → Int → Int → Bool → Int → Int → Option (Bool)
  | 0, _, _, _, _, _, _, _, _, _, _, _ => none
  | k + 1, x0, x1, x2, x7, x9, x19, x20, x21, x53, x226000, x226001 => if x53 = true then (some false) else (if 0 ≤ (wrap64 (x226001 - 1)) then (if (wrap64 (x226001 - 1)) < (x0.length : Int) then (if (wrap64 (x9 + 1)) < (x7.length : Int) then (if ((rd_T25 x0 (wrap64 (x226001 - 1))).f0) = 15 then (scholiastlaw04_ChunkCovers.l0 k x0 x1 x2 x7 x226001 x19 x20 (wrap64 (x21 + 1))) else (if ((rd_T25 x0 (wrap64 (x226001 - 1))).f0) = 16 then (scholiastlaw04_ChunkCovers.l0 k x0 x1 x2 x7 x226001 x19 x20 (wrap64 (x21 + 1))) else (some false))) else (scholiastlaw04_ChunkCovers.l0 k x0 x1 x2 x7 x226001 x19 x20 (wrap64 (x21 + 1)))) else (none)) else (none))
def scholiastlaw04_ChunkCovers.j2 : Nat → Int → Int → List (S30) → Bool → Option (Bool)
  | 0, _, _, _, _ => none
  | k + 1, x1, x2, x7, x87 => if x87 = true then (some true) else ((chunk_Touched.f k x7 x1 x2).bind fun bt237 => (scholiastlaw04_ChunkCovers.l1 k x1 x2 x7 (x7.length : Int) 0 bt237.1 bt237.2))
def scholiastlaw04_ChunkCovers.l1 : Nat → Int → Int → List (S30) → Int → Int → Int → Int → Option (Bool)
  | 0, _, _, _, _, _, _, _ => none
  | k + 1, x1, x2, x92, x93, x94, x240000, x240001 => if x94 < x93 then (if 0 ≤ x94 then (if x94 < (x92.length : Int) then (if ((rd_T30 x92 x94).f1) > x1 then (if x94 ≥ x240000 then (if ((decide (((rd_T30 x92 x94).f0) < x2)) != (decide (x94 < x240001))) = true then (some false) else (scholiastlaw04_ChunkCovers.l1 k x1 x2 x92 x93 (wrap64 (x94 + 1)) x240000 x240001)) else (if ((decide (((rd_T30 x92 x94).f0) < x2)) != false) = true then (some false) else (scholiastlaw04_ChunkCovers.l1 k x1 x2 x92 x93 (wrap64 (x94 + 1)) x240000 x240001))) else (if x94 ≥ x240000 then (if (false != (decide (x94 < x240001))) = true then (some false) else (scholiastlaw04_ChunkCovers.l1 k x1 x2 x92 x93 (wrap64 (x94 + 1)) x240000 x240001)) else (scholiastlaw04_ChunkCovers.l1 k x1 x2 x92 x93 (wrap64 (x94 + 1)) x240000 x240001))) else (none)) else (none)) else (some true)
end
def scholiastlaw04_ChunkCovers.f (k : Nat) (l0 : List (S25)) (a1 : Int) (a2 : Int) : Option (Bool) := (scholiastlaw04_shown.f k).bind fun t220 => (if t220 = true then ((chunk_Cut.f l0).bind fun t221 => (scholiastlaw04_ChunkCovers.l0 k l0 a1 a2 t221 0 t221 (t221.length : Int) 0)) else (some false))
theorem scholiastlaw04_ChunkCovers.mono_l : ∀ k, (∀ y0 y1 y2 y3 y4 y5 y6 y7, LeO (scholiastlaw04_ChunkCovers.l0 k y0 y1 y2 y3 y4 y5 y6 y7) (scholiastlaw04_ChunkCovers.l0 (k + 1) y0 y1 y2 y3 y4 y5 y6 y7)) ∧ (∀ y0 y1 y2 y3 y4 y5 y6 y7 y8 y9 y10, LeO (scholiastlaw04_ChunkCovers.j1 k y0 y1 y2 y3 y4 y5 y6 y7 y8 y9 y10) (scholiastlaw04_ChunkCovers.j1 (k + 1) y0 y1 y2 y3 y4 y5 y6 y7 y8 y9 y10)) ∧ (∀ y0 y1 y2 y3, LeO (scholiastlaw04_ChunkCovers.j2 k y0 y1 y2 y3) (scholiastlaw04_ChunkCovers.j2 (k + 1) y0 y1 y2 y3)) ∧ (∀ y0 y1 y2 y3 y4 y5 y6, LeO (scholiastlaw04_ChunkCovers.l1 k y0 y1 y2 y3 y4 y5 y6) (scholiastlaw04_ChunkCovers.l1 (k + 1) y0 y1 y2 y3 y4 y5 y6))
  | 0 => ⟨fun _ _ _ _ _ _ _ _ r h => by simp [scholiastlaw04_ChunkCovers.l0] at h, fun _ _ _ _ _ _ _ _ _ _ _ r h => by simp [scholiastlaw04_ChunkCovers.j1] at h, fun _ _ _ _ r h => by simp [scholiastlaw04_ChunkCovers.j2] at h, fun _ _ _ _ _ _ _ r h => by simp [scholiastlaw04_ChunkCovers.l1] at h⟩
  | k + 1 => by
    obtain ⟨ih0, ih1, ih2, ih3⟩ := scholiastlaw04_ChunkCovers.mono_l k
    refine ⟨?_, ?_, ?_, ?_⟩
    · intro y0 y1 y2 y3 y4 y5 y6 y7
      unfold scholiastlaw04_ChunkCovers.l0
      repeat' first
      | (with_reducible exact ih0 _ _ _ _ _ _ _ _)
      | (with_reducible exact ih1 _ _ _ _ _ _ _ _ _ _ _)
      | (with_reducible exact ih2 _ _ _ _)
      | (with_reducible exact ih3 _ _ _ _ _ _ _)
      | (with_reducible exact chunk_Touched.mono _ _ _ _)
      | (with_reducible exact scholiastlaw04_shown.mono _)
      | (with_reducible exact scholiastlaw04_weighs.mono _ _)
      | (with_reducible exact LeO.refl _)
      | (with_reducible exact LeO.none _)
      | (with_reducible refine LeO.ite ?_ ?_)
      | (with_reducible refine LeO.bind ?_ (fun _ => ?_))
      | exact ih0 _ _ _ _ _ _ _ _
      | exact ih1 _ _ _ _ _ _ _ _ _ _ _
      | exact ih2 _ _ _ _
      | exact ih3 _ _ _ _ _ _ _
      | exact chunk_Touched.mono _ _ _ _
      | exact scholiastlaw04_shown.mono _
      | exact scholiastlaw04_weighs.mono _ _
      | exact LeO.none _
      | refine LeO.ite ?_ ?_
      | refine LeO.bind ?_ (fun _ => ?_)
    · intro y0 y1 y2 y3 y4 y5 y6 y7 y8 y9 y10
      unfold scholiastlaw04_ChunkCovers.j1
      repeat' first
      | (with_reducible exact ih0 _ _ _ _ _ _ _ _)
      | (with_reducible exact ih1 _ _ _ _ _ _ _ _ _ _ _)
      | (with_reducible exact ih2 _ _ _ _)
      | (with_reducible exact ih3 _ _ _ _ _ _ _)
      | (with_reducible exact chunk_Touched.mono _ _ _ _)
      | (with_reducible exact scholiastlaw04_shown.mono _)
      | (with_reducible exact scholiastlaw04_weighs.mono _ _)
      | (with_reducible exact LeO.refl _)
      | (with_reducible exact LeO.none _)
      | (with_reducible refine LeO.ite ?_ ?_)
      | (with_reducible refine LeO.bind ?_ (fun _ => ?_))
      | exact ih0 _ _ _ _ _ _ _ _
      | exact ih1 _ _ _ _ _ _ _ _ _ _ _
      | exact ih2 _ _ _ _
      | exact ih3 _ _ _ _ _ _ _
      | exact chunk_Touched.mono _ _ _ _
      | exact scholiastlaw04_shown.mono _
      | exact scholiastlaw04_weighs.mono _ _
      | exact LeO.none _
      | refine LeO.ite ?_ ?_
      | refine LeO.bind ?_ (fun _ => ?_)
    · intro y0 y1 y2 y3
      unfold scholiastlaw04_ChunkCovers.j2
      repeat' first
      | (with_reducible exact ih0 _ _ _ _ _ _ _ _)
      | (with_reducible exact ih1 _ _ _ _ _ _ _ _ _ _ _)
      | (with_reducible exact ih2 _ _ _ _)
      | (with_reducible exact ih3 _ _ _ _ _ _ _)
      | (with_reducible exact chunk_Touched.mono _ _ _ _)
      | (with_reducible exact scholiastlaw04_shown.mono _)
      | (with_reducible exact scholiastlaw04_weighs.mono _ _)
      | (with_reducible exact LeO.refl _)
      | (with_reducible exact LeO.none _)
      | (with_reducible refine LeO.ite ?_ ?_)
      | (with_reducible refine LeO.bind ?_ (fun _ => ?_))
      | exact ih0 _ _ _ _ _ _ _ _
      | exact ih1 _ _ _ _ _ _ _ _ _ _ _
      | exact ih2 _ _ _ _
      | exact ih3 _ _ _ _ _ _ _
      | exact chunk_Touched.mono _ _ _ _
      | exact scholiastlaw04_shown.mono _
      | exact scholiastlaw04_weighs.mono _ _
      | exact LeO.none _
      | refine LeO.ite ?_ ?_
      | refine LeO.bind ?_ (fun _ => ?_)
    · intro y0 y1 y2 y3 y4 y5 y6
      unfold scholiastlaw04_ChunkCovers.l1
      repeat' first
      | (with_reducible exact ih0 _ _ _ _ _ _ _ _)
      | (with_reducible exact ih1 _ _ _ _ _ _ _ _ _ _ _)
      | (with_reducible exact ih2 _ _ _ _)
      | (with_reducible exact ih3 _ _ _ _ _ _ _)
      | (with_reducible exact chunk_Touched.mono _ _ _ _)
      | (with_reducible exact scholiastlaw04_shown.mono _)
      | (with_reducible exact scholiastlaw04_weighs.mono _ _)
      | (with_reducible exact LeO.refl _)
      | (with_reducible exact LeO.none _)
      | (with_reducible refine LeO.ite ?_ ?_)
      | (with_reducible refine LeO.bind ?_ (fun _ => ?_))
      | exact ih0 _ _ _ _ _ _ _ _
      | exact ih1 _ _ _ _ _ _ _ _ _ _ _
      | exact ih2 _ _ _ _
      | exact ih3 _ _ _ _ _ _ _
      | exact chunk_Touched.mono _ _ _ _
      | exact scholiastlaw04_shown.mono _
      | exact scholiastlaw04_weighs.mono _ _
      | exact LeO.none _
      | refine LeO.ite ?_ ?_
      | refine LeO.bind ?_ (fun _ => ?_)
theorem scholiastlaw04_ChunkCovers.mono : ∀ a0 a1 a2 k, LeO (scholiastlaw04_ChunkCovers.f k a0 a1 a2) (scholiastlaw04_ChunkCovers.f (k + 1) a0 a1 a2) := by
  intro a0 a1 a2 k
  obtain ⟨ih0, ih1, ih2, ih3⟩ := scholiastlaw04_ChunkCovers.mono_l k
  unfold scholiastlaw04_ChunkCovers.f
  repeat' first
      | (with_reducible exact ih0 _ _ _ _ _ _ _ _)
      | (with_reducible exact ih1 _ _ _ _ _ _ _ _ _ _ _)
      | (with_reducible exact ih2 _ _ _ _)
      | (with_reducible exact ih3 _ _ _ _ _ _ _)
      | (with_reducible exact chunk_Touched.mono _ _ _ _)
      | (with_reducible exact scholiastlaw04_shown.mono _)
      | (with_reducible exact scholiastlaw04_weighs.mono _ _)
      | (with_reducible exact LeO.refl _)
      | (with_reducible exact LeO.none _)
      | (with_reducible refine LeO.ite ?_ ?_)
      | (with_reducible refine LeO.bind ?_ (fun _ => ?_))
      | exact ih0 _ _ _ _ _ _ _ _
      | exact ih1 _ _ _ _ _ _ _ _ _ _ _
      | exact ih2 _ _ _ _
      | exact ih3 _ _ _ _ _ _ _
      | exact chunk_Touched.mono _ _ _ _
      | exact scholiastlaw04_shown.mono _
      | exact scholiastlaw04_weighs.mono _ _
      | exact LeO.none _
      | refine LeO.ite ?_ ?_
      | refine LeO.bind ?_ (fun _ => ?_)
set_option maxHeartbeats 8000000 in
set_option maxRecDepth 100000 in
theorem scholiastlaw04_ChunkCovers.calls (k : Nat) (A0 : Option Addr) (c0 : Nat) (l0 : List (S25)) (a1 : Int) (a2 : Int) (r : Bool) (w : World) (hr0 : Kd.C k25 w A0 l0.length l0) (hc0 : l0.length ≤ c0) (h : scholiastlaw04_ChunkCovers.f k l0 a1 a2 = some r) :
    Calls Try.prog 6 #[.slice A0 l0.length c0, .int .i64 a1, .int .i64 a2] w fun e w' => e = .returned (.bool r) ∧ Below w.heap.size w w' := by
  have hu30 := Try.underlying30
  have HR0 := Aside0.mk hr0
  have HC0 := Aside0.mk hc0
  clear hr0 hc0
  have HB := Aside0.mk (Below.refl w.heap.size w)
  have H : ((scholiastlaw04_shown.f k).bind fun t220 => (if t220 = true then ((chunk_Cut.f l0).bind fun t221 => (scholiastlaw04_ChunkCovers.l0 k l0 a1 a2 t221 0 t221 (t221.length : Int) 0)) else (some false))) = some r := h
  clear h
  replace H := Option.bind_eq_some_iff.mp H
  obtain ⟨t220, A40, H⟩ := H
  replace H : (if t220 = true then ((chunk_Cut.f l0).bind fun t221 => (scholiastlaw04_ChunkCovers.l0 k l0 a1 a2 t221 0 t221 (t221.length : Int) 0)) else (some false)) = some r := H
  have A4 := Aside0.mk A40
  clear A40
  by_cases c5 : t220 = true
  · subst c5
    have H1 : ((chunk_Cut.f l0).bind fun t221 => (scholiastlaw04_ChunkCovers.l0 k l0 a1 a2 t221 0 t221 (t221.length : Int) 0)) = some r := by rw [if_pos rfl] at H; exact H
    clear H
    have H := H1
    clear H1
    replace H := Option.bind_eq_some_iff.mp H
    obtain ⟨t221, A60, H⟩ := H
    replace H : (scholiastlaw04_ChunkCovers.l0 k l0 a1 a2 t221 0 t221 (t221.length : Int) 0) = some r := H
    have A6 := Aside0.mk A60
    clear A60
    have H' := Aside0.mk H
    clear H
    go_enter Try.func6, Try.ntmps6
    go_wp2_with (first | ((with_reducible refine gate_callee (f := 9) rfl ?_); refine goesL_ (some 15) rfl rfl Try.func9 (by kernel_rfl) rfl #[] rfl (by (try simp only [List.map_toArray, List.map_cons, List.map_nil]); first | done | rfl | (simp only [List.length_drop, List.length_take]; rfl)) ?_; (with_reducible refine (scholiastlaw04_shown.calls k  true _ A4.out).mono ?_); rintro e w7 ⟨rfl, hb⟩; refine ⟨_, rfl, ?_⟩; have n0_ := Aside0.mk (below_step (by repeat (first | (with_reducible first | exact HB.out | apply below_alloc | apply pw_below_drewN | apply below_drew1) | exact HB.out)) hb); clear HB; have HB := n0_; clear n0_; (try clear hb); (try clear hb2); (try clear hk); (try clear hi)) | ((with_reducible refine gate_callee (f := 10) rfl ?_); refine goesL_ (some 18) rfl rfl Try.func10 (by kernel_rfl) rfl #[.slice A0 l0.length c0] rfl (by (try simp only [List.map_toArray, List.map_cons, List.map_nil]); first | done | rfl | (simp only [List.length_drop, List.length_take]; rfl)) ?_; (with_reducible refine (chunk_Cut.calls _ _ l0 t221 _ ?side1 ?side2 A6.out).mono ?_); (case side1 => repeat (first | exact (Kd.C_below HR0.out HB.out) | (with_reducible refine Kd.C_alloc ?_ _) | (with_reducible refine Kd.C_drewN ?_ _) | (with_reducible refine Kd.C_drew ?_))); (case side2 => exact HC0.out); rintro e w8 ⟨v222, rfl, ho0, hb⟩; refine ⟨_, rfl, ?_⟩; have n0_ := Aside0.mk (Kd.R_lower ho0 (below_size (by repeat (first | (with_reducible first | exact HB.out | apply below_alloc | apply pw_below_drewN | apply below_drew1) | exact HB.out)))); have n1_ := Aside0.mk (below_step (by repeat (first | (with_reducible first | exact HB.out | apply below_alloc | apply pw_below_drewN | apply below_drew1) | exact HB.out)) hb); clear HB; have HO223 := n0_; have HB := n1_; clear n0_ n1_; (try clear hb); (try clear hb2); (try clear hk); (try clear hi); (try clear ho0); obtain ⟨Ao9, co9, eo9⟩ := Kd.R_slice HO223.out; subst eo9))
    go_loopg [8, 21] k (fun kq v8 v21 w' => ∃ (x8_1 : Int) (x21_1 : Int), v8 = .int .i64 x8_1 ∧ v21 = .int .i64 x21_1 ∧ Aside0 (scholiastlaw04_ChunkCovers.l0 kq l0 a1 a2 t221 x8_1 t221 (t221.length : Int) x21_1 = some r) ∧ Aside0 (kq ≤ k) ∧ Aside0 (Kd.R k30 30 w' w.heap.size (fun _ => True) (.slice Ao9 t221.length co9) t221) ∧ Aside0 (Kd.R k30 30 w' w.heap.size (fun _ => True) (.slice Ao9 t221.length co9) t221) ∧ Aside0 (Below w.heap.size w w'))
    case atStart => exact ⟨(0), (0), (by first | rfl | (simp; done) | (simp [*]; done)), (by first | rfl | (simp; done) | (simp [*]; done)), H', ⟨Nat.le_refl _⟩, ⟨by (with_reducible repeat (first | apply Kd.R_alloc | apply Kd.R_drewN | apply Kd.R_drew)); exact HO223.out⟩, ⟨by (with_reducible repeat (first | apply Kd.R_alloc | apply Kd.R_drewN | apply Kd.R_drew)); exact HO223.out⟩, ⟨by repeat (first | (with_reducible first | exact HB.out | apply below_alloc | apply pw_below_drewN | apply below_drew1) | exact HB.out)⟩⟩
    case round =>
      clear H'
      try clear c1
      try clear p2
      try clear c5
      try clear c6
      try clear c9
      obtain ⟨x8_1, x21_1, rfl, rfl, HA, HK1, HO_7, HO_19, HB⟩ := hrel
      cases gk with
      | zero => exact absurd HA.out (by simp [scholiastlaw04_ChunkCovers.l0])
      | succ k1 =>
        have H := HA.out
        clear HA
        simp only [scholiastlaw04_ChunkCovers.l0] at H
        by_cases c10 : x21_1 < (t221.length : Int)
        · rw [if_pos c10] at H
          have c10b0 : decide (x21_1 < (t221.length : Int)) = true := decide_eq_true c10
          clear c10
          by_cases c11 : 0 ≤ x21_1
          · rw [if_pos c11] at H
            have c11b0 : decide (0 ≤ x21_1) = true := decide_eq_true c11
            clear c11
            by_cases c12 : x21_1 < (t221.length : Int)
            · rw [if_pos c12] at H
              have c12b0 : decide (x21_1 < (t221.length : Int)) = true := decide_eq_true c12
              clear c12
              have HC13 := Aside0.mk H
              clear H
              have p224 : 0 ≤ (x21_1 : Int) := of_decide_eq_true (by first | (with_reducible assumption) | assumption)
              have q224 : x21_1 < (t221.length : Int) := of_decide_eq_true (by first | (with_reducible assumption) | assumption)
              obtain ⟨ad224, e224, hx224_0, hx224_1⟩ := at_T30 (Kd.R_reads' HO_19.out).2.2 x21_1 p224 q224
              cases e224
              replace p224 := eq_true p224
              replace q224 := eq_true q224
              go_upto_region 8 with (first | ((with_reducible refine gate_dst (N := 10) rfl ?_); (try (refine gate_guard (by rfl) ?_; dsimp only)); refine box_event ?hg (N := 10) ?hd (cs := #[.int .i64 0, .int .i64 0]) (t := 30) ?hr ?_; (case hd => rfl); (case hg => rfl); (case hr => first | (go_simp; done) | (go_simp; rfl)); intro gb225 hg w14 hbox hb; have n0_ := Aside0.mk (Kd.R_below (Kd.R_elderB (by (with_reducible repeat (first | apply Kd.R_alloc | apply Kd.R_drewN | apply Kd.R_drew)); exact HO_7.out) gb225 (Nat.le_of_eq hg.symm)) hb); have n1_ := Aside0.mk (Kd.R_below (Kd.R_elderB (by (with_reducible repeat (first | apply Kd.R_alloc | apply Kd.R_drewN | apply Kd.R_drew)); exact HO_19.out) gb225 (Nat.le_of_eq hg.symm)) hb); have n2_ := Aside0.mk (below_step (by repeat (first | (with_reducible first | exact HB.out | apply below_alloc | apply pw_below_drewN | apply below_drew1) | exact HB.out)) hb); have n3_ := Aside0.mk (hbox); have n4_ := Aside0.mk ((by rw [hg]; exact (below_size (by repeat (first | (with_reducible first | exact HB.out | apply below_alloc | apply pw_below_drewN | apply below_drew1) | exact HB.out))) : w.heap.size ≤ gb225)); have n5_ := Aside0.mk ((by rw [hg]; exact (below_size (by repeat (first | (with_reducible first | exact HB.out | apply below_alloc | apply pw_below_drewN | apply below_drew1) | exact HB.out))) : w.heap.size ≤ gb225)); clear HO_7; clear HO_19; clear HB; have HO_7 := n0_; have HO_19 := n1_; have HB := n2_; have BK225 := n3_; have GW225 := n4_; have GE225 := n5_; clear n0_ n1_ n2_ n3_ n4_ n5_; clear hb hbox hg; have hcz15_0 : w14.cell? ⟨gb225, 0, none⟩ = some (.int .i64 0) := (blk_cell BK225.out 0).trans rfl; have hcz15_1 : w14.cell? ⟨gb225, 1, none⟩ = some (.int .i64 0) := (blk_cell BK225.out 1).trans rfl; have hfz15_0 := blk_frozen BK225.out 0; have hfz15_1 := blk_frozen BK225.out 1))
              (try simp only [Act.put, List.setIfInBounds_toArray, List.set_cons_zero, List.set_cons_succ])
              go_cut [53] (fun v53 wc => ∃ (kq : Nat) (x53_12 : Bool), v53 = .bool x53_12 ∧ Aside0 (scholiastlaw04_ChunkCovers.j1 kq l0 a1 a2 t221 x21_1 t221 (t221.length : Int) x21_1 x53_12 ((rd_T30 t221 x21_1).f0) ((rd_T30 t221 x21_1).f1) = some r) ∧ Aside0 (kq ≤ k1) ∧ Aside0 (Kd.R k30 30 wc w.heap.size (fun k_ => k_ ≠ gb225) (.slice (some ad224) t221.length co9) t221) ∧ Aside0 (Kd.R k30 30 wc w.heap.size (fun k_ => k_ ≠ gb225) (.slice (some ad224) t221.length co9) t221) ∧ Aside0 (wc.heap[gb225]? = some (.cells #[.int .i64 ((rd_T30 t221 x21_1).f0), .int .i64 ((rd_T30 t221 x21_1).f1)] 30 (0, 0))) ∧ Aside0 (Below w.heap.size w wc))
              case first =>
                have H := HC13.out
                clear HC13
                by_cases c16 : ((rd_T30 t221 x21_1).f0) = x8_1
                · rw [if_pos c16] at H
                  have c16b0 : (((rd_T30 t221 x21_1).f0) == x8_1) = true := beq_iff_eq.mpr c16
                  have c16b1 : (((rd_T30 t221 x21_1).f0) != x8_1) = false := bne_eq_false_iff_eq.mpr c16
                  clear c16
                  (first | rw [c16b0] | (simp only [i64_w, i32_w]; rw [c16b0]) | rw [c16b1] | skip)
                  by_cases c17 : ((rd_T30 t221 x21_1).f1) ≤ ((rd_T30 t221 x21_1).f0)
                  · rw [if_pos c17] at H
                    have c17b0 : decide (((rd_T30 t221 x21_1).f1) ≤ ((rd_T30 t221 x21_1).f0)) = true := decide_eq_true c17
                    clear c17
                    have H' := Aside0.mk H
                    clear H
                    have hcz18_0 : w14.cell? ⟨gb225, 0, none⟩ = some (.int .i64 0) := (blk_cell BK225.out 0).trans rfl
                    have hcz18_1 : w14.cell? ⟨gb225, 1, none⟩ = some (.int .i64 0) := (blk_cell BK225.out 1).trans rfl
                    have hfz18_0 := blk_frozen BK225.out 0
                    have hfz18_1 := blk_frozen BK225.out 1
                    go_wp2
                    go_meet
                    case rel => exact ⟨_, (true), (by first | rfl | (simp; done) | (simp [*]; done)), H', ⟨by have := HK1.out; first | omega | exact Nat.le_refl _⟩, ⟨by (with_reducible repeat (first | apply Kd.R_alloc | apply Kd.R_drewN | apply Kd.R_drew)); exact Kd.R_mono (Kd.R_far (p := ⟨gb225, 1, none⟩) (Kd.R_far (p := ⟨gb225, 0, none⟩) (Kd.R_mono HO_7.out (fun k_ hk => (⟨hk, hk.2⟩ : _ ∧ k_ ≠ gb225))) (fun _ hk => hk.2) (.int .i64 ((rd_T30 t221 x21_1).f0))) (fun _ hk => hk.2) (.int .i64 ((rd_T30 t221 x21_1).f1))) (fun _ hk => hk.1.2)⟩, ⟨by (with_reducible repeat (first | apply Kd.R_alloc | apply Kd.R_drewN | apply Kd.R_drew)); exact Kd.R_mono (Kd.R_far (p := ⟨gb225, 1, none⟩) (Kd.R_far (p := ⟨gb225, 0, none⟩) (Kd.R_mono HO_19.out (fun k_ hk => (⟨hk, hk.2⟩ : _ ∧ k_ ≠ gb225))) (fun _ hk => hk.2) (.int .i64 ((rd_T30 t221 x21_1).f0))) (fun _ hk => hk.2) (.int .i64 ((rd_T30 t221 x21_1).f1))) (fun _ hk => hk.1.2)⟩, ⟨by (with_reducible repeat (first | refine blk_drewN ?_ _ | refine blk_drew ?_ | refine blk_alloc ?_ _)); refine blk_put (cs := #[.int .i64 ((rd_T30 t221 x21_1).f0), .int .i64 0]) ?_ 1 _ rfl; (with_reducible repeat (first | refine blk_drewN ?_ _ | refine blk_drew ?_ | refine blk_alloc ?_ _)); refine blk_put (cs := #[.int .i64 0, .int .i64 0]) ?_ 0 _ rfl; (with_reducible repeat (first | refine blk_drewN ?_ _ | refine blk_drew ?_ | refine blk_alloc ?_ _)); exact BK225.out⟩, ⟨by repeat (first | (with_reducible first | exact HB.out | apply below_alloc | apply pw_below_drewN | apply below_drew1 | refine below_set ?_ GE225.out) | exact HB.out)⟩⟩
                  · rw [if_neg c17] at H
                    have c17b0 : decide (((rd_T30 t221 x21_1).f1) ≤ ((rd_T30 t221 x21_1).f0)) = false := decide_eq_false c17
                    clear c17
                    by_cases c19 : ((rd_T30 t221 x21_1).f1) > (l0.length : Int)
                    · rw [if_pos c19] at H
                      have c19b0 : decide ((l0.length : Int) < ((rd_T30 t221 x21_1).f1)) = true := decide_eq_true c19
                      clear c19
                      have H' := Aside0.mk H
                      clear H
                      have hcz20_0 : w14.cell? ⟨gb225, 0, none⟩ = some (.int .i64 0) := (blk_cell BK225.out 0).trans rfl
                      have hcz20_1 : w14.cell? ⟨gb225, 1, none⟩ = some (.int .i64 0) := (blk_cell BK225.out 1).trans rfl
                      have hfz20_0 := blk_frozen BK225.out 0
                      have hfz20_1 := blk_frozen BK225.out 1
                      go_wp2
                      go_meet
                      case rel => exact ⟨_, (true), (by first | rfl | (simp; done) | (simp [*]; done)), H', ⟨by have := HK1.out; first | omega | exact Nat.le_refl _⟩, ⟨by (with_reducible repeat (first | apply Kd.R_alloc | apply Kd.R_drewN | apply Kd.R_drew)); exact Kd.R_mono (Kd.R_far (p := ⟨gb225, 1, none⟩) (Kd.R_far (p := ⟨gb225, 0, none⟩) (Kd.R_mono HO_7.out (fun k_ hk => (⟨hk, hk.2⟩ : _ ∧ k_ ≠ gb225))) (fun _ hk => hk.2) (.int .i64 ((rd_T30 t221 x21_1).f0))) (fun _ hk => hk.2) (.int .i64 ((rd_T30 t221 x21_1).f1))) (fun _ hk => hk.1.2)⟩, ⟨by (with_reducible repeat (first | apply Kd.R_alloc | apply Kd.R_drewN | apply Kd.R_drew)); exact Kd.R_mono (Kd.R_far (p := ⟨gb225, 1, none⟩) (Kd.R_far (p := ⟨gb225, 0, none⟩) (Kd.R_mono HO_19.out (fun k_ hk => (⟨hk, hk.2⟩ : _ ∧ k_ ≠ gb225))) (fun _ hk => hk.2) (.int .i64 ((rd_T30 t221 x21_1).f0))) (fun _ hk => hk.2) (.int .i64 ((rd_T30 t221 x21_1).f1))) (fun _ hk => hk.1.2)⟩, ⟨by (with_reducible repeat (first | refine blk_drewN ?_ _ | refine blk_drew ?_ | refine blk_alloc ?_ _)); refine blk_put (cs := #[.int .i64 ((rd_T30 t221 x21_1).f0), .int .i64 0]) ?_ 1 _ rfl; (with_reducible repeat (first | refine blk_drewN ?_ _ | refine blk_drew ?_ | refine blk_alloc ?_ _)); refine blk_put (cs := #[.int .i64 0, .int .i64 0]) ?_ 0 _ rfl; (with_reducible repeat (first | refine blk_drewN ?_ _ | refine blk_drew ?_ | refine blk_alloc ?_ _)); exact BK225.out⟩, ⟨by repeat (first | (with_reducible first | exact HB.out | apply below_alloc | apply pw_below_drewN | apply below_drew1 | refine below_set ?_ GE225.out) | exact HB.out)⟩⟩
                    · rw [if_neg c19] at H
                      have c19b0 : decide ((l0.length : Int) < ((rd_T30 t221 x21_1).f1)) = false := decide_eq_false c19
                      clear c19
                      by_cases c21 : 0 ≤ ((rd_T30 t221 x21_1).f0)
                      · rw [if_pos c21] at H
                        have c21b0 := eq_true c21
                        have c21b1 : decide (0 ≤ ((rd_T30 t221 x21_1).f0)) = true := decide_eq_true c21
                        clear c21
                        by_cases c22 : ((rd_T30 t221 x21_1).f0) ≤ ((rd_T30 t221 x21_1).f1)
                        · rw [if_pos c22] at H
                          have c22b0 := eq_true c22
                          have c22b1 : decide (((rd_T30 t221 x21_1).f0) ≤ ((rd_T30 t221 x21_1).f1)) = true := decide_eq_true c22
                          clear c22
                          by_cases c23 : ((rd_T30 t221 x21_1).f1) ≤ (l0.length : Int)
                          · rw [if_pos c23] at H
                            have c23b0 := eq_true c23
                            have c23b1 : decide (((rd_T30 t221 x21_1).f1) ≤ (l0.length : Int)) = true := decide_eq_true c23
                            clear c23
                            obtain ⟨y226, hy226⟩ : ∃ y_ : List (S25), y_ = ((l0.take (((rd_T30 t221 x21_1).f1) : Int).toNat).drop (((rd_T30 t221 x21_1).f0) : Int).toNat) := ⟨_, rfl⟩
                            replace H : ((scholiastlaw04_weighs.f k1 y226).bind fun t230 => (scholiastlaw04_ChunkCovers.j1 k1 l0 a1 a2 t221 x21_1 t221 (t221.length : Int) x21_1 (!t230) ((rd_T30 t221 x21_1).f0) ((rd_T30 t221 x21_1).f1))) = some r := by first | (rw [hy226]; with_reducible exact H) | (have H2_ := (Option.bind_some _ _).symm.trans H; rw [hy226]; with_reducible exact H2_) | (have H2_ := (Option.bind_some _ _).symm.trans H; with_reducible exact H2_) | with_reducible exact H | (rw [hy226]; exact H) | exact H
                            have Ny226 := Aside0.mk hy226
                            clear hy226
                            replace H := Option.bind_eq_some_iff.mp H
                            obtain ⟨t230, A240, H⟩ := H
                            replace H : (scholiastlaw04_ChunkCovers.j1 k1 l0 a1 a2 t221 x21_1 t221 (t221.length : Int) x21_1 (!t230) ((rd_T30 t221 x21_1).f0) ((rd_T30 t221 x21_1).f1)) = some r := H
                            have A24 := Aside0.mk A240
                            clear A240
                            have H' := Aside0.mk H
                            clear H
                            have n0_ : Aside0 (Kd.R k30 30 ((w14.setCell ⟨gb225, 0, none⟩ (.int .i64 ((rd_T30 t221 x21_1).f0))).setCell ⟨gb225, 1, none⟩ (.int .i64 ((rd_T30 t221 x21_1).f1))) w.heap.size (fun k_ => k_ ≠ gb225) (.slice (some ad224) t221.length co9) t221) := ⟨by (with_reducible repeat (first | apply Kd.R_alloc | apply Kd.R_drewN | apply Kd.R_drew)); exact Kd.R_mono (Kd.R_far (p := ⟨gb225, 1, none⟩) (Kd.R_far (p := ⟨gb225, 0, none⟩) (Kd.R_mono HO_7.out (fun k_ hk => (⟨hk, hk.2⟩ : _ ∧ k_ ≠ gb225))) (fun _ hk => hk.2) (.int .i64 ((rd_T30 t221 x21_1).f0))) (fun _ hk => hk.2) (.int .i64 ((rd_T30 t221 x21_1).f1))) (fun _ hk => hk.1.2)⟩
                            have n1_ : Aside0 (Kd.R k30 30 ((w14.setCell ⟨gb225, 0, none⟩ (.int .i64 ((rd_T30 t221 x21_1).f0))).setCell ⟨gb225, 1, none⟩ (.int .i64 ((rd_T30 t221 x21_1).f1))) w.heap.size (fun k_ => k_ ≠ gb225) (.slice (some ad224) t221.length co9) t221) := ⟨by (with_reducible repeat (first | apply Kd.R_alloc | apply Kd.R_drewN | apply Kd.R_drew)); exact Kd.R_mono (Kd.R_far (p := ⟨gb225, 1, none⟩) (Kd.R_far (p := ⟨gb225, 0, none⟩) (Kd.R_mono HO_19.out (fun k_ hk => (⟨hk, hk.2⟩ : _ ∧ k_ ≠ gb225))) (fun _ hk => hk.2) (.int .i64 ((rd_T30 t221 x21_1).f0))) (fun _ hk => hk.2) (.int .i64 ((rd_T30 t221 x21_1).f1))) (fun _ hk => hk.1.2)⟩
                            have n2_ : Aside0 (((w14.setCell ⟨gb225, 0, none⟩ (.int .i64 ((rd_T30 t221 x21_1).f0))).setCell ⟨gb225, 1, none⟩ (.int .i64 ((rd_T30 t221 x21_1).f1))).heap[gb225]? = some (.cells #[.int .i64 ((rd_T30 t221 x21_1).f0), .int .i64 ((rd_T30 t221 x21_1).f1)] 30 (0, 0))) := ⟨by (with_reducible repeat (first | refine blk_drewN ?_ _ | refine blk_drew ?_ | refine blk_alloc ?_ _)); refine blk_put (cs := #[.int .i64 ((rd_T30 t221 x21_1).f0), .int .i64 0]) ?_ 1 _ rfl; (with_reducible repeat (first | refine blk_drewN ?_ _ | refine blk_drew ?_ | refine blk_alloc ?_ _)); refine blk_put (cs := #[.int .i64 0, .int .i64 0]) ?_ 0 _ rfl; (with_reducible repeat (first | refine blk_drewN ?_ _ | refine blk_drew ?_ | refine blk_alloc ?_ _)); exact BK225.out⟩
                            have n3_ : Aside0 (Below w.heap.size w ((w14.setCell ⟨gb225, 0, none⟩ (.int .i64 ((rd_T30 t221 x21_1).f0))).setCell ⟨gb225, 1, none⟩ (.int .i64 ((rd_T30 t221 x21_1).f1)))) := ⟨by repeat (first | (with_reducible first | exact HB.out | apply below_alloc | apply pw_below_drewN | apply below_drew1 | refine below_set ?_ GE225.out) | exact HB.out)⟩
                            (try clear HO_7)
                            (try clear HO_19)
                            (try clear BK225)
                            (try clear HB)
                            generalize ((w14.setCell ⟨gb225, 0, none⟩ (.int .i64 ((rd_T30 t221 x21_1).f0))).setCell ⟨gb225, 1, none⟩ (.int .i64 ((rd_T30 t221 x21_1).f1))) = w25 at n0_ n1_ n2_ n3_ ⊢
                            have HO_7 := n0_
                            have HO_19 := n1_
                            have BK225 := n2_
                            have HB := n3_
                            clear n0_ n1_ n2_ n3_
                            have hcz26_0 : w25.cell? ⟨gb225, 0, none⟩ = some (.int .i64 ((rd_T30 t221 x21_1).f0)) := (blk_cell BK225.out 0).trans rfl
                            have hcz26_1 : w25.cell? ⟨gb225, 1, none⟩ = some (.int .i64 ((rd_T30 t221 x21_1).f1)) := (blk_cell BK225.out 1).trans rfl
                            have hfz26_0 := blk_frozen BK225.out 0
                            have hfz26_1 := blk_frozen BK225.out 1
                            have q27 : (((rd_T30 t221 x21_1).f1) : Int) ≤ ((l0.length : Int) : Int) := of_decide_eq_true (by first | (with_reducible assumption) | assumption)
                            obtain ⟨i027, hi027, _, hsz27, _⟩ := info_parts info25
                            have hroom27 : l0.length ≤ c0 := HC0.out
                            have hC27 : Kd.C k25 _ A0 l0.length l0 := HR0.out
                            have ql27 : (((rd_T30 t221 x21_1).f0) : Int) ≤ (((rd_T30 t221 x21_1).f1) : Int) := of_decide_eq_true (by first | (with_reducible assumption) | assumption)
                            have q027 : (0 : Int) ≤ (((rd_T30 t221 x21_1).f0) : Int) := of_decide_eq_true (by first | (with_reducible assumption) | assumption)
                            have hcut27 := cut_mid (P := Try.prog) 22 25 .i64 .i64 Try.underlying22 hi027 3 hsz27 A0 l0.length c0 ((rd_T30 t221 x21_1).f0) ((rd_T30 t221 x21_1).f1) q027 ql27 q27 hroom27
                            have hr27 := Kd.C_mid (lo := (((rd_T30 t221 x21_1).f0) : Int).toNat) (hi := (((rd_T30 t221 x21_1).f1) : Int).toNat) (c := c0) hC27 (by omega) (by omega) hroom27
                            obtain ⟨A27, hA27⟩ : ∃ A1, A1 = (if c0 = (((rd_T30 t221 x21_1).f0) : Int).toNat then A0 else (A0 : Option Addr).map (·.add ((((rd_T30 t221 x21_1).f0) : Int).toNat * 3))) := ⟨_, rfl⟩
                            obtain ⟨c27, hc27⟩ : ∃ c1, c1 = c0 - (((rd_T30 t221 x21_1).f0) : Int).toNat := ⟨_, rfl⟩
                            have hy27 : y226.length = (((rd_T30 t221 x21_1).f1) : Int).toNat - (((rd_T30 t221 x21_1).f0) : Int).toNat := (by rw [Ny226.out, List.length_drop, List.length_take] <;> omega)
                            rw [show ((l0).take (((rd_T30 t221 x21_1).f1) : Int).toNat).drop (((rd_T30 t221 x21_1).f0) : Int).toNat = y226 from Ny226.out.symm] at hr27
                            replace hr27 : Kd.C k25 _ A27 y226.length y226 := (by rw [hA27]; exact hr27)
                            rw [← hy27, ← hA27, ← hc27] at hcut27
                            have HR229 := Aside0.mk hr27
                            have HC229 := Aside0.mk (show y226.length ≤ c27 from by rw [hy27, hc27]; exact Nat.sub_le_sub_right (Nat.le_trans (by omega) hroom27) _)
                            clear hr27 hC27 hroom27 hi027 hsz27 hc27
                            have KY27 := Aside0.mk hy27
                            have KA27 := Aside0.mk hA27
                            clear hy27 hA27
                            replace q27 := eq_true q27
                            go_wp2_with (first | (go_at_call 17; (with_reducible refine (scholiastlaw04_weighs.calls k1 _ _ y226 t230 _ ?side1 ?side2 A24.out).mono ?_); (case side1 => repeat (first | exact (Kd.C_below HR229.out HB.out) | (with_reducible refine Kd.C_alloc ?_ _) | (with_reducible refine Kd.C_drewN ?_ _) | (with_reducible refine Kd.C_drew ?_))); (case side2 => exact HC229.out); rintro e w28 ⟨rfl, hb⟩; have n0_ := Aside0.mk (Kd.R_below (by (with_reducible repeat (first | apply Kd.R_alloc | apply Kd.R_drewN | apply Kd.R_drew)); exact HO_7.out) hb); have n1_ := Aside0.mk (Kd.R_below (by (with_reducible repeat (first | apply Kd.R_alloc | apply Kd.R_drewN | apply Kd.R_drew)); exact HO_19.out) hb); have n2_ := Aside0.mk (blk_below (g := gb225) (o := .cells #[.int .i64 ((rd_T30 t221 x21_1).f0), .int .i64 ((rd_T30 t221 x21_1).f1)] 30 (0, 0)) (by (with_reducible repeat (first | refine blk_drewN ?_ _ | refine blk_drew ?_ | refine blk_alloc ?_ _)); exact BK225.out) hb); have n3_ := Aside0.mk (below_step (by repeat (first | (with_reducible first | exact HB.out | apply below_alloc | apply pw_below_drewN | apply below_drew1 | refine below_set ?_ GE225.out) | exact HB.out)) hb); clear HO_7; clear HO_19; clear BK225; clear HB; have HO_7 := n0_; have HO_19 := n1_; have BK225 := n2_; have HB := n3_; clear n0_ n1_ n2_ n3_; (try clear hb); (try clear hb2); (try clear hk); (try clear hi)))
                            go_meet
                            case rel => exact ⟨_, (!t230), (by first | rfl | (simp; done) | (simp [*]; done)), H', ⟨by have := HK1.out; first | omega | exact Nat.le_refl _⟩, ⟨by (with_reducible repeat (first | apply Kd.R_alloc | apply Kd.R_drewN | apply Kd.R_drew)); exact HO_7.out⟩, ⟨by (with_reducible repeat (first | apply Kd.R_alloc | apply Kd.R_drewN | apply Kd.R_drew)); exact HO_19.out⟩, ⟨by (with_reducible repeat (first | refine blk_drewN ?_ _ | refine blk_drew ?_ | refine blk_alloc ?_ _)); exact BK225.out⟩, ⟨by repeat (first | (with_reducible first | exact HB.out | apply below_alloc | apply pw_below_drewN | apply below_drew1 | refine below_set ?_ GE225.out) | exact HB.out)⟩⟩
                          · rw [if_neg c23] at H
                            exact absurd H (by simp)
                        · rw [if_neg c22] at H
                          exact absurd H (by simp)
                      · rw [if_neg c21] at H
                        exact absurd H (by simp)
                · rw [if_neg c16] at H
                  have c16b0 : (((rd_T30 t221 x21_1).f0) == x8_1) = false := beq_eq_false_iff_ne.mpr c16
                  have c16b1 : (((rd_T30 t221 x21_1).f0) != x8_1) = true := bne_iff_ne.mpr c16
                  (first | rw [c16b0] | (simp only [i64_w, i32_w]; rw [c16b0]) | rw [c16b1] | skip)
                  have H' := Aside0.mk H
                  clear H
                  have hcz29_0 : w14.cell? ⟨gb225, 0, none⟩ = some (.int .i64 0) := (blk_cell BK225.out 0).trans rfl
                  have hcz29_1 : w14.cell? ⟨gb225, 1, none⟩ = some (.int .i64 0) := (blk_cell BK225.out 1).trans rfl
                  have hfz29_0 := blk_frozen BK225.out 0
                  have hfz29_1 := blk_frozen BK225.out 1
                  go_wp2
                  go_meet
                  case rel => exact ⟨_, (true), (by first | rfl | (simp; done) | (simp [*]; done)), H', ⟨by have := HK1.out; first | omega | exact Nat.le_refl _⟩, ⟨by (with_reducible repeat (first | apply Kd.R_alloc | apply Kd.R_drewN | apply Kd.R_drew)); exact Kd.R_mono (Kd.R_far (p := ⟨gb225, 1, none⟩) (Kd.R_far (p := ⟨gb225, 0, none⟩) (Kd.R_mono HO_7.out (fun k_ hk => (⟨hk, hk.2⟩ : _ ∧ k_ ≠ gb225))) (fun _ hk => hk.2) (.int .i64 ((rd_T30 t221 x21_1).f0))) (fun _ hk => hk.2) (.int .i64 ((rd_T30 t221 x21_1).f1))) (fun _ hk => hk.1.2)⟩, ⟨by (with_reducible repeat (first | apply Kd.R_alloc | apply Kd.R_drewN | apply Kd.R_drew)); exact Kd.R_mono (Kd.R_far (p := ⟨gb225, 1, none⟩) (Kd.R_far (p := ⟨gb225, 0, none⟩) (Kd.R_mono HO_19.out (fun k_ hk => (⟨hk, hk.2⟩ : _ ∧ k_ ≠ gb225))) (fun _ hk => hk.2) (.int .i64 ((rd_T30 t221 x21_1).f0))) (fun _ hk => hk.2) (.int .i64 ((rd_T30 t221 x21_1).f1))) (fun _ hk => hk.1.2)⟩, ⟨by (with_reducible repeat (first | refine blk_drewN ?_ _ | refine blk_drew ?_ | refine blk_alloc ?_ _)); refine blk_put (cs := #[.int .i64 ((rd_T30 t221 x21_1).f0), .int .i64 0]) ?_ 1 _ rfl; (with_reducible repeat (first | refine blk_drewN ?_ _ | refine blk_drew ?_ | refine blk_alloc ?_ _)); refine blk_put (cs := #[.int .i64 0, .int .i64 0]) ?_ 0 _ rfl; (with_reducible repeat (first | refine blk_drewN ?_ _ | refine blk_drew ?_ | refine blk_alloc ?_ _)); exact BK225.out⟩, ⟨by repeat (first | (with_reducible first | exact HB.out | apply below_alloc | apply pw_below_drewN | apply below_drew1 | refine below_set ?_ GE225.out) | exact HB.out)⟩⟩
              case rest =>
                clear HC13
                try clear c1
                try clear c2
                try clear p2
                try clear q2
                try clear hx2
                try clear c5
                try clear c6
                try clear c9
                try clear c10
                try clear c10b0
                try clear c11
                try clear c11b0
                try clear c12
                try clear c12b0
                try clear c16
                try clear c16b0
                try clear c16b1
                try clear c17
                try clear c17b0
                try clear c19
                try clear c19b0
                try clear c21
                try clear c21b0
                try clear c21b1
                try clear c22
                try clear c22b0
                try clear c22b1
                try clear p22
                try clear q22
                try clear hx22
                try clear c23
                try clear c23b0
                try clear c23b1
                try clear c27
                try clear q27
                try clear hcz15_0
                try clear hcz15_1
                try clear hcz18_0
                try clear hcz18_1
                try clear hcz20_0
                try clear hcz20_1
                try clear hcz26_0
                try clear hcz26_1
                try clear hcz29_0
                try clear hcz29_1
                try clear hfz15_0
                try clear hfz15_1
                try clear hfz18_0
                try clear hfz18_1
                try clear hfz20_0
                try clear hfz20_1
                try clear hfz26_0
                try clear hfz26_1
                try clear hfz29_0
                try clear hfz29_1
                try clear hx224_0
                try clear hx224_1
                try clear p2
                try clear p224
                try clear q027
                try clear q224
                try clear q27
                obtain ⟨kq, x53_12, rfl, HA, HJ12, HO_7, HO_19, BK225, HB⟩ := hcut
                cases kq with
                | zero => exact absurd HA.out (by simp [scholiastlaw04_ChunkCovers.j1])
                | succ kj12 =>
                  have H := HA.out
                  clear HA
                  simp only [scholiastlaw04_ChunkCovers.j1] at H
                  by_cases c30 : x53_12 = true
                  · subst c30
                    have H1 : (some false) = some r := by rw [if_pos rfl] at H; exact H
                    clear H
                    have H := H1
                    clear H1
                    obtain rfl := Option.some.inj H
                    go_wp2
                    go_ret
                    exact ⟨by first | rfl | (simp [errW_none, errW_some] <;> rfl) | (simp [*, errW_none, errW_some] <;> rfl), by repeat (first | (with_reducible first | exact HB.out | apply below_alloc | apply pw_below_drewN | apply below_drew1 | refine below_set ?_ GE225.out) | exact HB.out)⟩
                  · replace c30 := Bool.eq_false_iff.mpr c30
                    subst c30
                    have H1 : (if 0 ≤ (wrap64 (((rd_T30 t221 x21_1).f1) - 1)) then (if (wrap64 (((rd_T30 t221 x21_1).f1) - 1)) < (l0.length : Int) then (if (wrap64 (x21_1 + 1)) < (t221.length : Int) then (if ((rd_T25 l0 (wrap64 (((rd_T30 t221 x21_1).f1) - 1))).f0) = 15 then (scholiastlaw04_ChunkCovers.l0 kj12 l0 a1 a2 t221 ((rd_T30 t221 x21_1).f1) t221 (t221.length : Int) (wrap64 (x21_1 + 1))) else (if ((rd_T25 l0 (wrap64 (((rd_T30 t221 x21_1).f1) - 1))).f0) = 16 then (scholiastlaw04_ChunkCovers.l0 kj12 l0 a1 a2 t221 ((rd_T30 t221 x21_1).f1) t221 (t221.length : Int) (wrap64 (x21_1 + 1))) else (some false))) else (scholiastlaw04_ChunkCovers.l0 kj12 l0 a1 a2 t221 ((rd_T30 t221 x21_1).f1) t221 (t221.length : Int) (wrap64 (x21_1 + 1)))) else (none)) else (none)) = some r := by rw [if_neg (show ¬ (false = true) by decide)] at H; exact H
                    clear H
                    have H := H1
                    clear H1
                    obtain ⟨ji31, hji31⟩ : ∃ j_ : Int, (wrap64 (((rd_T30 t221 x21_1).f1) - 1)) = j_ := ⟨_, rfl⟩
                    replace H : (if 0 ≤ (ji31) then (if (ji31) < (l0.length : Int) then (if (wrap64 (x21_1 + 1)) < (t221.length : Int) then (if ((rd_T25 l0 (ji31)).f0) = 15 then (scholiastlaw04_ChunkCovers.l0 kj12 l0 a1 a2 t221 ((rd_T30 t221 x21_1).f1) t221 (t221.length : Int) (wrap64 (x21_1 + 1))) else (if ((rd_T25 l0 (ji31)).f0) = 16 then (scholiastlaw04_ChunkCovers.l0 kj12 l0 a1 a2 t221 ((rd_T30 t221 x21_1).f1) t221 (t221.length : Int) (wrap64 (x21_1 + 1))) else (some false))) else (scholiastlaw04_ChunkCovers.l0 kj12 l0 a1 a2 t221 ((rd_T30 t221 x21_1).f1) t221 (t221.length : Int) (wrap64 (x21_1 + 1)))) else (none)) else (none)) = some r := by first | (rw [hji31] at H; exact H) | (simp only [hji31] at H ⊢; exact H)
                    have hji31w : (IntKind.i64.wrap (((rd_T30 t221 x21_1).f1) - 1)) = ji31 := (i64_w _).trans hji31
                    by_cases c32 : 0 ≤ (ji31)
                    · rw [if_pos c32] at H
                      have c32b0 : decide (0 ≤ (ji31)) = true := decide_eq_true c32
                      clear c32
                      by_cases c33 : (ji31) < (l0.length : Int)
                      · rw [if_pos c33] at H
                        have c33b0 : decide ((ji31) < (l0.length : Int)) = true := decide_eq_true c33
                        clear c33
                        by_cases c34 : (wrap64 (x21_1 + 1)) < (t221.length : Int)
                        · rw [if_pos c34] at H
                          have c34b0 : decide ((wrap64 (x21_1 + 1)) < (t221.length : Int)) = true := decide_eq_true c34
                          clear c34
                          by_cases c35 : ((rd_T25 l0 (ji31)).f0) = 15
                          · rw [if_pos c35] at H
                            have c35b0 : (((rd_T25 l0 (ji31)).f0) == 15) = true := beq_iff_eq.mpr c35
                            have c35b1 : (((rd_T25 l0 (ji31)).f0) != 15) = false := bne_eq_false_iff_eq.mpr c35
                            clear c35
                            have H' := Aside0.mk H
                            clear H
                            have hcz36_0 : wc.cell? ⟨gb225, 0, none⟩ = some (.int .i64 ((rd_T30 t221 x21_1).f0)) := (blk_cell BK225.out 0).trans rfl
                            have hcz36_1 : wc.cell? ⟨gb225, 1, none⟩ = some (.int .i64 ((rd_T30 t221 x21_1).f1)) := (blk_cell BK225.out 1).trans rfl
                            have hfz36_0 := blk_frozen BK225.out 0
                            have hfz36_1 := blk_frozen BK225.out 1
                            have p231 : 0 ≤ ((ji31) : Int) := of_decide_eq_true (by first | (with_reducible assumption) | assumption)
                            have q231 : (ji31) < (l0.length : Int) := of_decide_eq_true (by first | (with_reducible assumption) | assumption)
                            obtain ⟨ad231, e231, hx231_0, hx231_1, hx231_2⟩ := at_T25 HR0.out (ji31) p231 q231
                            cases e231
                            replace hx231_0 := (HB.out.cell (World.block_lt_of_cell? w _ hx231_0)).trans hx231_0
                            replace hx231_1 := (HB.out.cell (World.block_lt_of_cell? w _ hx231_1)).trans hx231_1
                            replace hx231_2 := (HB.out.cell (World.block_lt_of_cell? w _ hx231_2)).trans hx231_2
                            replace p231 := eq_true p231
                            replace q231 := eq_true q231
                            go_wp2
                            go_roundg kj12
                            case measure => have := HK1.out; have := HJ12.out; omega
                            case rel => exact ⟨(((rd_T30 t221 x21_1).f1)), (wrap64 (x21_1 + 1)), (by first | rfl | (simp; done) | (simp [*]; done)), (by first | rfl | (simp; done) | (simp [*]; done)), H', ⟨by have := HK1.out; have := HJ12.out; omega⟩, ⟨by (with_reducible repeat (first | apply Kd.R_alloc | apply Kd.R_drewN | apply Kd.R_drew)); exact Kd.R_mono HO_7.out (fun _ hk => trivial)⟩, ⟨by (with_reducible repeat (first | apply Kd.R_alloc | apply Kd.R_drewN | apply Kd.R_drew)); exact Kd.R_mono HO_19.out (fun _ hk => trivial)⟩, ⟨by repeat (first | (with_reducible first | exact HB.out | apply below_alloc | apply pw_below_drewN | apply below_drew1 | refine below_set ?_ GE225.out) | exact HB.out)⟩⟩
                          · rw [if_neg c35] at H
                            have c35b0 : (((rd_T25 l0 (ji31)).f0) == 15) = false := beq_eq_false_iff_ne.mpr c35
                            have c35b1 : (((rd_T25 l0 (ji31)).f0) != 15) = true := bne_iff_ne.mpr c35
                            by_cases c37 : ((rd_T25 l0 (ji31)).f0) = 16
                            · rw [if_pos c37] at H
                              have c37b0 : (((rd_T25 l0 (ji31)).f0) == 16) = true := beq_iff_eq.mpr c37
                              have c37b1 : (((rd_T25 l0 (ji31)).f0) != 16) = false := bne_eq_false_iff_eq.mpr c37
                              clear c37
                              have H' := Aside0.mk H
                              clear H
                              have hcz38_0 : wc.cell? ⟨gb225, 0, none⟩ = some (.int .i64 ((rd_T30 t221 x21_1).f0)) := (blk_cell BK225.out 0).trans rfl
                              have hcz38_1 : wc.cell? ⟨gb225, 1, none⟩ = some (.int .i64 ((rd_T30 t221 x21_1).f1)) := (blk_cell BK225.out 1).trans rfl
                              have hfz38_0 := blk_frozen BK225.out 0
                              have hfz38_1 := blk_frozen BK225.out 1
                              have p231 : 0 ≤ ((ji31) : Int) := of_decide_eq_true (by first | (with_reducible assumption) | assumption)
                              have q231 : (ji31) < (l0.length : Int) := of_decide_eq_true (by first | (with_reducible assumption) | assumption)
                              obtain ⟨ad231, e231, hx231_0, hx231_1, hx231_2⟩ := at_T25 HR0.out (ji31) p231 q231
                              cases e231
                              replace hx231_0 := (HB.out.cell (World.block_lt_of_cell? w _ hx231_0)).trans hx231_0
                              replace hx231_1 := (HB.out.cell (World.block_lt_of_cell? w _ hx231_1)).trans hx231_1
                              replace hx231_2 := (HB.out.cell (World.block_lt_of_cell? w _ hx231_2)).trans hx231_2
                              replace p231 := eq_true p231
                              replace q231 := eq_true q231
                              go_wp2
                              go_roundg kj12
                              case measure => have := HK1.out; have := HJ12.out; omega
                              case rel => exact ⟨(((rd_T30 t221 x21_1).f1)), (wrap64 (x21_1 + 1)), (by first | rfl | (simp; done) | (simp [*]; done)), (by first | rfl | (simp; done) | (simp [*]; done)), H', ⟨by have := HK1.out; have := HJ12.out; omega⟩, ⟨by (with_reducible repeat (first | apply Kd.R_alloc | apply Kd.R_drewN | apply Kd.R_drew)); exact Kd.R_mono HO_7.out (fun _ hk => trivial)⟩, ⟨by (with_reducible repeat (first | apply Kd.R_alloc | apply Kd.R_drewN | apply Kd.R_drew)); exact Kd.R_mono HO_19.out (fun _ hk => trivial)⟩, ⟨by repeat (first | (with_reducible first | exact HB.out | apply below_alloc | apply pw_below_drewN | apply below_drew1 | refine below_set ?_ GE225.out) | exact HB.out)⟩⟩
                            · rw [if_neg c37] at H
                              have c37b0 : (((rd_T25 l0 (ji31)).f0) == 16) = false := beq_eq_false_iff_ne.mpr c37
                              have c37b1 : (((rd_T25 l0 (ji31)).f0) != 16) = true := bne_iff_ne.mpr c37
                              obtain rfl := Option.some.inj H
                              have hcz39_0 : wc.cell? ⟨gb225, 0, none⟩ = some (.int .i64 ((rd_T30 t221 x21_1).f0)) := (blk_cell BK225.out 0).trans rfl
                              have hcz39_1 : wc.cell? ⟨gb225, 1, none⟩ = some (.int .i64 ((rd_T30 t221 x21_1).f1)) := (blk_cell BK225.out 1).trans rfl
                              have hfz39_0 := blk_frozen BK225.out 0
                              have hfz39_1 := blk_frozen BK225.out 1
                              have p231 : 0 ≤ ((ji31) : Int) := of_decide_eq_true (by first | (with_reducible assumption) | assumption)
                              have q231 : (ji31) < (l0.length : Int) := of_decide_eq_true (by first | (with_reducible assumption) | assumption)
                              obtain ⟨ad231, e231, hx231_0, hx231_1, hx231_2⟩ := at_T25 HR0.out (ji31) p231 q231
                              cases e231
                              replace hx231_0 := (HB.out.cell (World.block_lt_of_cell? w _ hx231_0)).trans hx231_0
                              replace hx231_1 := (HB.out.cell (World.block_lt_of_cell? w _ hx231_1)).trans hx231_1
                              replace hx231_2 := (HB.out.cell (World.block_lt_of_cell? w _ hx231_2)).trans hx231_2
                              replace p231 := eq_true p231
                              replace q231 := eq_true q231
                              go_wp2
                              go_ret
                              exact ⟨by first | rfl | (simp [errW_none, errW_some] <;> rfl) | (simp only [← hji31]; first | rfl | (simp [errW_none, errW_some] <;> rfl)) | (simp [*, errW_none, errW_some] <;> rfl), by repeat (first | (with_reducible first | exact HB.out | apply below_alloc | apply pw_below_drewN | apply below_drew1 | refine below_set ?_ GE225.out) | exact HB.out)⟩
                        · rw [if_neg c34] at H
                          have c34b0 : decide ((wrap64 (x21_1 + 1)) < (t221.length : Int)) = false := decide_eq_false c34
                          clear c34
                          have H' := Aside0.mk H
                          clear H
                          have hcz40_0 : wc.cell? ⟨gb225, 0, none⟩ = some (.int .i64 ((rd_T30 t221 x21_1).f0)) := (blk_cell BK225.out 0).trans rfl
                          have hcz40_1 : wc.cell? ⟨gb225, 1, none⟩ = some (.int .i64 ((rd_T30 t221 x21_1).f1)) := (blk_cell BK225.out 1).trans rfl
                          have hfz40_0 := blk_frozen BK225.out 0
                          have hfz40_1 := blk_frozen BK225.out 1
                          have p231 : 0 ≤ ((ji31) : Int) := of_decide_eq_true (by first | (with_reducible assumption) | assumption)
                          have q231 : (ji31) < (l0.length : Int) := of_decide_eq_true (by first | (with_reducible assumption) | assumption)
                          obtain ⟨ad231, e231, hx231_0, hx231_1, hx231_2⟩ := at_T25 HR0.out (ji31) p231 q231
                          cases e231
                          replace hx231_0 := (HB.out.cell (World.block_lt_of_cell? w _ hx231_0)).trans hx231_0
                          replace hx231_1 := (HB.out.cell (World.block_lt_of_cell? w _ hx231_1)).trans hx231_1
                          replace hx231_2 := (HB.out.cell (World.block_lt_of_cell? w _ hx231_2)).trans hx231_2
                          replace p231 := eq_true p231
                          replace q231 := eq_true q231
                          go_wp2
                          go_roundg kj12
                          case measure => have := HK1.out; have := HJ12.out; omega
                          case rel => exact ⟨(((rd_T30 t221 x21_1).f1)), (wrap64 (x21_1 + 1)), (by first | rfl | (simp; done) | (simp [*]; done)), (by first | rfl | (simp; done) | (simp [*]; done)), H', ⟨by have := HK1.out; have := HJ12.out; omega⟩, ⟨by (with_reducible repeat (first | apply Kd.R_alloc | apply Kd.R_drewN | apply Kd.R_drew)); exact Kd.R_mono HO_7.out (fun _ hk => trivial)⟩, ⟨by (with_reducible repeat (first | apply Kd.R_alloc | apply Kd.R_drewN | apply Kd.R_drew)); exact Kd.R_mono HO_19.out (fun _ hk => trivial)⟩, ⟨by repeat (first | (with_reducible first | exact HB.out | apply below_alloc | apply pw_below_drewN | apply below_drew1 | refine below_set ?_ GE225.out) | exact HB.out)⟩⟩
                      · rw [if_neg c33] at H
                        exact absurd H (by simp)
                    · rw [if_neg c32] at H
                      exact absurd H (by simp)
            · rw [if_neg c12] at H
              exact absurd H (by simp)
          · rw [if_neg c11] at H
            exact absurd H (by simp)
        · rw [if_neg c10] at H
          have c10b0 : decide (x21_1 < (t221.length : Int)) = false := decide_eq_false c10
          clear c10
          by_cases c41 : 0 ≤ x8_1
          · rw [if_pos c41] at H
            have c41b0 := eq_true c41
            have c41b1 : decide (0 ≤ x8_1) = true := decide_eq_true c41
            clear c41
            by_cases c42 : x8_1 ≤ (l0.length : Int)
            · rw [if_pos c42] at H
              have c42b0 := eq_true c42
              have c42b1 : decide (x8_1 ≤ (l0.length : Int)) = true := decide_eq_true c42
              clear c42
              obtain ⟨y232, hy232⟩ : ∃ y_ : List (S25), y_ = (l0.drop (x8_1 : Int).toNat) := ⟨_, rfl⟩
              replace H : ((scholiastlaw04_weighs.f k1 y232).bind fun t236 => (if t236 = true then (some false) else (if a1 < 0 then (scholiastlaw04_ChunkCovers.j2 k1 a1 a2 t221 true) else (scholiastlaw04_ChunkCovers.j2 k1 a1 a2 t221 (decide (a1 ≥ a2)))))) = some r := by first | (rw [hy232]; with_reducible exact H) | (have H2_ := (Option.bind_some _ _).symm.trans H; rw [hy232]; with_reducible exact H2_) | (have H2_ := (Option.bind_some _ _).symm.trans H; with_reducible exact H2_) | with_reducible exact H | (rw [hy232]; exact H) | exact H
              have Ny232 := Aside0.mk hy232
              clear hy232
              replace H := Option.bind_eq_some_iff.mp H
              obtain ⟨t236, A430, H⟩ := H
              replace H : (if t236 = true then (some false) else (if a1 < 0 then (scholiastlaw04_ChunkCovers.j2 k1 a1 a2 t221 true) else (scholiastlaw04_ChunkCovers.j2 k1 a1 a2 t221 (decide (a1 ≥ a2))))) = some r := H
              have A43 := Aside0.mk A430
              clear A430
              by_cases c44 : t236 = true
              · subst c44
                have H1 : (some false) = some r := by rw [if_pos rfl] at H; exact H
                clear H
                have H := H1
                clear H1
                obtain rfl := Option.some.inj H
                have q45 : (x8_1 : Int) ≤ ((l0.length : Int) : Int) := of_decide_eq_true (by first | (with_reducible assumption) | assumption)
                obtain ⟨i045, hi045, _, hsz45, _⟩ := info_parts info25
                have hroom45 : l0.length ≤ c0 := HC0.out
                have hC45 : Kd.C k25 _ A0 l0.length l0 := HR0.out
                have q045 : (0 : Int) ≤ (x8_1 : Int) := of_decide_eq_true (by first | (with_reducible assumption) | assumption)
                have hcut45 := cut_from (P := Try.prog) 22 25 .i64 Try.underlying22 hi045 3 hsz45 A0 l0.length c0 x8_1 q045 q45
                have hr45 := Kd.C_drop (m := (x8_1 : Int).toNat) (c := c0) hC45 (by omega) hroom45
                obtain ⟨A45, hA45⟩ : ∃ A1, A1 = (if c0 = (x8_1 : Int).toNat then A0 else (A0 : Option Addr).map (·.add ((x8_1 : Int).toNat * 3))) := ⟨_, rfl⟩
                obtain ⟨c45, hc45⟩ : ∃ c1, c1 = c0 - (x8_1 : Int).toNat := ⟨_, rfl⟩
                have hy45 : y232.length = l0.length - (x8_1 : Int).toNat := (by rw [Ny232.out, List.length_drop] <;> omega)
                rw [show (l0).drop (x8_1 : Int).toNat = y232 from Ny232.out.symm] at hr45
                replace hr45 : Kd.C k25 _ A45 y232.length y232 := (by rw [hA45]; exact hr45)
                rw [← hy45, ← hA45, ← hc45] at hcut45
                have HR235 := Aside0.mk hr45
                have HC235 := Aside0.mk (show y232.length ≤ c45 from by rw [hy45, hc45]; exact Nat.sub_le_sub_right hroom45 _)
                clear hr45 hC45 hroom45 hi045 hsz45 hc45
                have KY45 := Aside0.mk hy45
                have KA45 := Aside0.mk hA45
                clear hy45 hA45
                replace q45 := eq_true q45
                go_wp2_with (first | ((with_reducible refine gate_callee (f := 17) rfl ?_); refine goesL_ (some 80) rfl rfl Try.func17 (by kernel_rfl) rfl #[.slice A45 y232.length c45] rfl (by (try simp only [List.map_toArray, List.map_cons, List.map_nil]); first | done | rfl | (simp only [List.length_drop, List.length_take]; rfl)) ?_; (with_reducible refine (scholiastlaw04_weighs.calls k1 _ _ y232 true _ ?side1 ?side2 A43.out).mono ?_); (case side1 => repeat (first | exact (Kd.C_below HR235.out HB.out) | (with_reducible refine Kd.C_alloc ?_ _) | (with_reducible refine Kd.C_drewN ?_ _) | (with_reducible refine Kd.C_drew ?_))); (case side2 => exact HC235.out); rintro e w46 ⟨rfl, hb⟩; refine ⟨_, rfl, ?_⟩; have n0_ := Aside0.mk (Kd.R_below (by (with_reducible repeat (first | apply Kd.R_alloc | apply Kd.R_drewN | apply Kd.R_drew)); exact HO_7.out) hb); have n1_ := Aside0.mk (Kd.R_below (by (with_reducible repeat (first | apply Kd.R_alloc | apply Kd.R_drewN | apply Kd.R_drew)); exact HO_19.out) hb); have n2_ := Aside0.mk (below_step (by repeat (first | (with_reducible first | exact HB.out | apply below_alloc | apply pw_below_drewN | apply below_drew1) | exact HB.out)) hb); clear HO_7; clear HO_19; clear HB; have HO_7 := n0_; have HO_19 := n1_; have HB := n2_; clear n0_ n1_ n2_; (try clear hb); (try clear hb2); (try clear hk); (try clear hi)))
                go_ret
                exact ⟨by first | rfl | (simp [errW_none, errW_some] <;> rfl) | (simp [*, errW_none, errW_some] <;> rfl), by repeat (first | (with_reducible first | exact HB.out | apply below_alloc | apply pw_below_drewN | apply below_drew1) | exact HB.out)⟩
              · replace c44 := Bool.eq_false_iff.mpr c44
                subst c44
                have H1 : (if a1 < 0 then (scholiastlaw04_ChunkCovers.j2 k1 a1 a2 t221 true) else (scholiastlaw04_ChunkCovers.j2 k1 a1 a2 t221 (decide (a1 ≥ a2)))) = some r := by rw [if_neg (show ¬ (false = true) by decide)] at H; exact H
                clear H
                have H := H1
                clear H1
                have HC47 := Aside0.mk H
                clear H
                have q48 : (x8_1 : Int) ≤ ((l0.length : Int) : Int) := of_decide_eq_true (by first | (with_reducible assumption) | assumption)
                obtain ⟨i048, hi048, _, hsz48, _⟩ := info_parts info25
                have hroom48 : l0.length ≤ c0 := HC0.out
                have hC48 : Kd.C k25 _ A0 l0.length l0 := HR0.out
                have q048 : (0 : Int) ≤ (x8_1 : Int) := of_decide_eq_true (by first | (with_reducible assumption) | assumption)
                have hcut48 := cut_from (P := Try.prog) 22 25 .i64 Try.underlying22 hi048 3 hsz48 A0 l0.length c0 x8_1 q048 q48
                have hr48 := Kd.C_drop (m := (x8_1 : Int).toNat) (c := c0) hC48 (by omega) hroom48
                obtain ⟨A48, hA48⟩ : ∃ A1, A1 = (if c0 = (x8_1 : Int).toNat then A0 else (A0 : Option Addr).map (·.add ((x8_1 : Int).toNat * 3))) := ⟨_, rfl⟩
                obtain ⟨c48, hc48⟩ : ∃ c1, c1 = c0 - (x8_1 : Int).toNat := ⟨_, rfl⟩
                have hy48 : y232.length = l0.length - (x8_1 : Int).toNat := (by rw [Ny232.out, List.length_drop] <;> omega)
                rw [show (l0).drop (x8_1 : Int).toNat = y232 from Ny232.out.symm] at hr48
                replace hr48 : Kd.C k25 _ A48 y232.length y232 := (by rw [hA48]; exact hr48)
                rw [← hy48, ← hA48, ← hc48] at hcut48
                have HR235 := Aside0.mk hr48
                have HC235 := Aside0.mk (show y232.length ≤ c48 from by rw [hy48, hc48]; exact Nat.sub_le_sub_right hroom48 _)
                clear hr48 hC48 hroom48 hi048 hsz48 hc48
                have KY48 := Aside0.mk hy48
                have KA48 := Aside0.mk hA48
                clear hy48 hA48
                replace q48 := eq_true q48
                go_upto_region 17 with (first | ((with_reducible refine gate_callee (f := 17) rfl ?_); refine goesL_ (some 80) rfl rfl Try.func17 (by kernel_rfl) rfl #[.slice A48 y232.length c48] rfl (by (try simp only [List.map_toArray, List.map_cons, List.map_nil]); first | done | rfl | (simp only [List.length_drop, List.length_take]; rfl)) ?_; (with_reducible refine (scholiastlaw04_weighs.calls k1 _ _ y232 false _ ?side1 ?side2 A43.out).mono ?_); (case side1 => repeat (first | exact (Kd.C_below HR235.out HB.out) | (with_reducible refine Kd.C_alloc ?_ _) | (with_reducible refine Kd.C_drewN ?_ _) | (with_reducible refine Kd.C_drew ?_))); (case side2 => exact HC235.out); rintro e w49 ⟨rfl, hb⟩; refine ⟨_, rfl, ?_⟩; have n0_ := Aside0.mk (Kd.R_below (by (with_reducible repeat (first | apply Kd.R_alloc | apply Kd.R_drewN | apply Kd.R_drew)); exact HO_7.out) hb); have n1_ := Aside0.mk (Kd.R_below (by (with_reducible repeat (first | apply Kd.R_alloc | apply Kd.R_drewN | apply Kd.R_drew)); exact HO_19.out) hb); have n2_ := Aside0.mk (below_step (by repeat (first | (with_reducible first | exact HB.out | apply below_alloc | apply pw_below_drewN | apply below_drew1) | exact HB.out)) hb); clear HO_7; clear HO_19; clear HB; have HO_7 := n0_; have HO_19 := n1_; have HB := n2_; clear n0_ n1_ n2_; (try clear hb); (try clear hb2); (try clear hk); (try clear hi)))
                (try simp only [Act.put, List.setIfInBounds_toArray, List.set_cons_zero, List.set_cons_succ])
                go_cut [87] (fun v87 wc => ∃ (kq : Nat) (x87_46 : Bool), v87 = .bool x87_46 ∧ Aside0 (scholiastlaw04_ChunkCovers.j2 kq a1 a2 t221 x87_46 = some r) ∧ Aside0 (kq ≤ k1) ∧ Aside0 (Kd.R k30 30 wc w.heap.size (fun _ => True) (.slice Ao9 t221.length co9) t221) ∧ Aside0 (Below w.heap.size w wc))
                case first =>
                  have H := HC47.out
                  clear HC47
                  by_cases c50 : a1 < 0
                  · rw [if_pos c50] at H
                    have c50b0 : decide (a1 < 0) = true := decide_eq_true c50
                    clear c50
                    (first | rw [c50b0] | (simp only [i64_w, i32_w]; rw [c50b0]) | rw [c50b1] | skip)
                    have H' := Aside0.mk H
                    clear H
                    go_wp2
                    go_meet
                    case rel => exact ⟨_, (true), (by first | rfl | (simp; done) | (simp [*]; done)), H', ⟨by have := HK1.out; first | omega | exact Nat.le_refl _⟩, ⟨by (with_reducible repeat (first | apply Kd.R_alloc | apply Kd.R_drewN | apply Kd.R_drew)); exact HO_7.out⟩, ⟨by repeat (first | (with_reducible first | exact HB.out | apply below_alloc | apply pw_below_drewN | apply below_drew1) | exact HB.out)⟩⟩
                  · rw [if_neg c50] at H
                    have c50b0 : decide (a1 < 0) = false := decide_eq_false c50
                    clear c50
                    (first | rw [c50b0] | (simp only [i64_w, i32_w]; rw [c50b0]) | rw [c50b1] | skip)
                    have H' := Aside0.mk H
                    clear H
                    go_wp2
                    go_meet
                    case rel => exact ⟨_, (decide (a1 ≥ a2)), (by first | rfl | (simp; done) | (simp [*]; done)), H', ⟨by have := HK1.out; first | omega | exact Nat.le_refl _⟩, ⟨by (with_reducible repeat (first | apply Kd.R_alloc | apply Kd.R_drewN | apply Kd.R_drew)); exact HO_7.out⟩, ⟨by repeat (first | (with_reducible first | exact HB.out | apply below_alloc | apply pw_below_drewN | apply below_drew1) | exact HB.out)⟩⟩
                case rest =>
                  clear HC47
                  try clear c1
                  try clear c2
                  try clear p2
                  try clear q2
                  try clear hx2
                  try clear c3
                  try clear c4
                  try clear q4
                  try clear c5
                  try clear c6
                  try clear p6
                  try clear c9
                  try clear c10
                  try clear c10b0
                  try clear c11
                  try clear c11b0
                  try clear c12
                  try clear c12b0
                  try clear c16
                  try clear c16b0
                  try clear c16b1
                  try clear c17
                  try clear c17b0
                  try clear c19
                  try clear c19b0
                  try clear c21
                  try clear c21b0
                  try clear c21b1
                  try clear c22
                  try clear c22b0
                  try clear c22b1
                  try clear p22
                  try clear q22
                  try clear hx22
                  try clear c23
                  try clear c23b0
                  try clear c23b1
                  try clear p23
                  try clear q23
                  try clear hx23
                  try clear c27
                  try clear q27
                  try clear c30
                  try clear c32
                  try clear c32b0
                  try clear c33
                  try clear c33b0
                  try clear c34
                  try clear c34b0
                  try clear c35
                  try clear c35b0
                  try clear c35b1
                  try clear c37
                  try clear c37b0
                  try clear c37b1
                  try clear c41
                  try clear c41b0
                  try clear c41b1
                  try clear c42
                  try clear c42b0
                  try clear c42b1
                  try clear c44
                  try clear c45
                  try clear q45
                  try clear c48
                  try clear q48
                  try clear c50
                  try clear c50b0
                  try clear c50b1
                  try clear hcz15_0
                  try clear hcz15_1
                  try clear hcz18_0
                  try clear hcz18_1
                  try clear hcz20_0
                  try clear hcz20_1
                  try clear hcz26_0
                  try clear hcz26_1
                  try clear hcz29_0
                  try clear hcz29_1
                  try clear hcz36_0
                  try clear hcz36_1
                  try clear hcz38_0
                  try clear hcz38_1
                  try clear hcz39_0
                  try clear hcz39_1
                  try clear hcz40_0
                  try clear hcz40_1
                  try clear hfz15_0
                  try clear hfz15_1
                  try clear hfz18_0
                  try clear hfz18_1
                  try clear hfz20_0
                  try clear hfz20_1
                  try clear hfz26_0
                  try clear hfz26_1
                  try clear hfz29_0
                  try clear hfz29_1
                  try clear hfz36_0
                  try clear hfz36_1
                  try clear hfz38_0
                  try clear hfz38_1
                  try clear hfz39_0
                  try clear hfz39_1
                  try clear hfz40_0
                  try clear hfz40_1
                  try clear hx224_0
                  try clear hx224_1
                  try clear hx231_0
                  try clear hx231_1
                  try clear hx231_2
                  try clear p2
                  try clear p22
                  try clear p224
                  try clear p231
                  try clear q027
                  try clear q045
                  try clear q048
                  try clear q2
                  try clear q22
                  try clear q224
                  try clear q231
                  try clear q27
                  try clear q45
                  try clear q48
                  obtain ⟨kq, x87_46, rfl, HA, HJ46, HO_7, HB⟩ := hcut
                  cases kq with
                  | zero => exact absurd HA.out (by simp [scholiastlaw04_ChunkCovers.j2])
                  | succ kj46 =>
                    have H := HA.out
                    clear HA
                    simp only [scholiastlaw04_ChunkCovers.j2] at H
                    by_cases c51 : x87_46 = true
                    · subst c51
                      have H1 : (some true) = some r := by rw [if_pos rfl] at H; exact H
                      clear H
                      have H := H1
                      clear H1
                      obtain rfl := Option.some.inj H
                      go_wp2
                      go_ret
                      exact ⟨by first | rfl | (simp [errW_none, errW_some] <;> rfl) | (simp [*, errW_none, errW_some] <;> rfl), by repeat (first | (with_reducible first | exact HB.out | apply below_alloc | apply pw_below_drewN | apply below_drew1) | exact HB.out)⟩
                    · replace c51 := Bool.eq_false_iff.mpr c51
                      subst c51
                      have H1 : ((chunk_Touched.f kj46 t221 a1 a2).bind fun bt237 => (scholiastlaw04_ChunkCovers.l1 kj46 a1 a2 t221 (t221.length : Int) 0 bt237.1 bt237.2)) = some r := by rw [if_neg (show ¬ (false = true) by decide)] at H; exact H
                      clear H
                      have H := H1
                      clear H1
                      replace H := Option.bind_eq_some_iff.mp H
                      obtain ⟨⟨t237, t238⟩, A520, H⟩ := H
                      replace H : (scholiastlaw04_ChunkCovers.l1 kj46 a1 a2 t221 (t221.length : Int) 0 t237 t238) = some r := H
                      have A52 := Aside0.mk A520
                      clear A520
                      have H' := Aside0.mk H
                      clear H
                      go_wp2_with (first | ((with_reducible refine gate_callee (f := 15) rfl ?_); refine goesL_ (some 91) rfl rfl Try.func15 (by kernel_rfl) rfl #[.slice Ao9 t221.length co9, .int .i64 a1, .int .i64 a2] rfl (by (try simp only [List.map_toArray, List.map_cons, List.map_nil]); first | done | rfl | (simp only [List.length_drop, List.length_take]; rfl)) ?_; (with_reducible refine (chunk_Touched.calls kj46 _ _ t221 a1 a2 t237 t238 _ ?side1 ?side2 A52.out).mono ?_); (case side1 => repeat (first | exact (Kd.R_reads' HO_7.out).2.2 | (with_reducible refine Kd.C_alloc ?_ _) | (with_reducible refine Kd.C_drewN ?_ _) | (with_reducible refine Kd.C_drew ?_))); (case side2 => exact (Kd.R_reads' HO_7.out).2.1); rintro e w53 ⟨rfl, hb⟩; refine ⟨_, rfl, ?_⟩; have n0_ := Aside0.mk (Kd.R_below (by (with_reducible repeat (first | apply Kd.R_alloc | apply Kd.R_drewN | apply Kd.R_drew)); exact HO_7.out) hb); have n1_ := Aside0.mk (below_step (by repeat (first | (with_reducible first | exact HB.out | apply below_alloc | apply pw_below_drewN | apply below_drew1) | exact HB.out)) hb); clear HO_7; clear HB; have HO_7 := n0_; have HB := n1_; clear n0_ n1_; (try clear hb); (try clear hb2); (try clear hk); (try clear hi)) | ((with_reducible refine gate_dst (N := 12) rfl ?_); (try (refine gate_guard (by rfl) ?_; dsimp only)); refine box_event ?hg (N := 12) ?hd (cs := #[.int .i64 0, .int .i64 0]) (t := 30) ?hr ?_; (case hd => rfl); (case hg => rfl); (case hr => first | (go_simp; done) | (go_simp; rfl)); intro gb239 hg w54 hbox hb; have n0_ := Aside0.mk (Kd.R_below (Kd.R_elderB (by (with_reducible repeat (first | apply Kd.R_alloc | apply Kd.R_drewN | apply Kd.R_drew)); exact HO_7.out) gb239 (Nat.le_of_eq hg.symm)) hb); have n1_ := Aside0.mk (below_step (by repeat (first | (with_reducible first | exact HB.out | apply below_alloc | apply pw_below_drewN | apply below_drew1) | exact HB.out)) hb); have n2_ := Aside0.mk (hbox); have n3_ := Aside0.mk ((by rw [hg]; exact (below_size (by repeat (first | (with_reducible first | exact HB.out | apply below_alloc | apply pw_below_drewN | apply below_drew1) | exact HB.out))) : w.heap.size ≤ gb239)); have n4_ := Aside0.mk ((by rw [hg]; exact (below_size (by repeat (first | (with_reducible first | exact HB.out | apply below_alloc | apply pw_below_drewN | apply below_drew1) | exact HB.out))) : w.heap.size ≤ gb239)); clear HO_7; clear HB; have HO_7 := n0_; have HB := n1_; have BK239 := n2_; have GW239 := n3_; have GE239 := n4_; clear n0_ n1_ n2_ n3_ n4_; clear hb hbox hg; have hcz55_0 : w54.cell? ⟨gb239, 0, none⟩ = some (.int .i64 0) := (blk_cell BK239.out 0).trans rfl; have hcz55_1 : w54.cell? ⟨gb239, 1, none⟩ = some (.int .i64 0) := (blk_cell BK239.out 1).trans rfl; have hfz55_0 := blk_frozen BK239.out 0; have hfz55_1 := blk_frozen BK239.out 1))
                      go_loopg [94] kj46 (fun kq v94 w' => ∃ (x94_3 : Int), v94 = .int .i64 x94_3 ∧ Aside0 (scholiastlaw04_ChunkCovers.l1 kq a1 a2 t221 (t221.length : Int) x94_3 t237 t238 = some r) ∧ Aside0 (kq ≤ kj46) ∧ Aside0 (Kd.R k30 30 w' w.heap.size (fun k_ => k_ ≠ gb239) (.slice Ao9 t221.length co9) t221) ∧ Aside0 (w'.heap[gb239]? = some (.cells #[.int .i64 t237, .int .i64 t238] 30 (0, 0))) ∧ Aside0 (Below w.heap.size w w'))
                      case atStart => exact ⟨(0), (by first | rfl | (simp; done) | (simp [*]; done)), H', ⟨Nat.le_refl _⟩, ⟨by (with_reducible repeat (first | apply Kd.R_alloc | apply Kd.R_drewN | apply Kd.R_drew)); exact Kd.R_mono (Kd.R_far (p := ⟨gb239, 1, none⟩) (Kd.R_far (p := ⟨gb239, 0, none⟩) (Kd.R_mono HO_7.out (fun k_ hk => (⟨hk, hk.2⟩ : _ ∧ k_ ≠ gb239))) (fun _ hk => hk.2) (.int .i64 t237)) (fun _ hk => hk.2) (.int .i64 t238)) (fun _ hk => hk.1.2)⟩, ⟨by (with_reducible repeat (first | refine blk_drewN ?_ _ | refine blk_drew ?_ | refine blk_alloc ?_ _)); refine blk_put (cs := #[.int .i64 t237, .int .i64 0]) ?_ 1 _ rfl; (with_reducible repeat (first | refine blk_drewN ?_ _ | refine blk_drew ?_ | refine blk_alloc ?_ _)); refine blk_put (cs := #[.int .i64 0, .int .i64 0]) ?_ 0 _ rfl; (with_reducible repeat (first | refine blk_drewN ?_ _ | refine blk_drew ?_ | refine blk_alloc ?_ _)); exact BK239.out⟩, ⟨by repeat (first | (with_reducible first | exact HB.out | apply below_alloc | apply pw_below_drewN | apply below_drew1 | refine below_set ?_ GE239.out) | exact HB.out)⟩⟩
                      case round =>
                        clear H'
                        try clear c1
                        try clear c2
                        try clear p2
                        try clear q2
                        try clear hx2
                        try clear c3
                        try clear c4
                        try clear q4
                        try clear c5
                        try clear c6
                        try clear p6
                        try clear c9
                        try clear c10
                        try clear c10b0
                        try clear c11
                        try clear c11b0
                        try clear c12
                        try clear c12b0
                        try clear c15
                        try clear c16
                        try clear c16b0
                        try clear c16b1
                        try clear c17
                        try clear c17b0
                        try clear c19
                        try clear c19b0
                        try clear c21
                        try clear c21b0
                        try clear c21b1
                        try clear c22
                        try clear c22b0
                        try clear c22b1
                        try clear p22
                        try clear q22
                        try clear hx22
                        try clear c23
                        try clear c23b0
                        try clear c23b1
                        try clear p23
                        try clear q23
                        try clear hx23
                        try clear c27
                        try clear q27
                        try clear c30
                        try clear c32
                        try clear c32b0
                        try clear c33
                        try clear c33b0
                        try clear c34
                        try clear c34b0
                        try clear c35
                        try clear c35b0
                        try clear c35b1
                        try clear c37
                        try clear c37b0
                        try clear c37b1
                        try clear c41
                        try clear c41b0
                        try clear c41b1
                        try clear c42
                        try clear c42b0
                        try clear c42b1
                        try clear c44
                        try clear c45
                        try clear q45
                        try clear c48
                        try clear q48
                        try clear c50
                        try clear c50b0
                        try clear c50b1
                        try clear c51
                        try clear hcz15_0
                        try clear hcz15_1
                        try clear hcz18_0
                        try clear hcz18_1
                        try clear hcz20_0
                        try clear hcz20_1
                        try clear hcz26_0
                        try clear hcz26_1
                        try clear hcz29_0
                        try clear hcz29_1
                        try clear hcz36_0
                        try clear hcz36_1
                        try clear hcz38_0
                        try clear hcz38_1
                        try clear hcz39_0
                        try clear hcz39_1
                        try clear hcz40_0
                        try clear hcz40_1
                        try clear hcz55_0
                        try clear hcz55_1
                        try clear hfz15_0
                        try clear hfz15_1
                        try clear hfz18_0
                        try clear hfz18_1
                        try clear hfz20_0
                        try clear hfz20_1
                        try clear hfz26_0
                        try clear hfz26_1
                        try clear hfz29_0
                        try clear hfz29_1
                        try clear hfz36_0
                        try clear hfz36_1
                        try clear hfz38_0
                        try clear hfz38_1
                        try clear hfz39_0
                        try clear hfz39_1
                        try clear hfz40_0
                        try clear hfz40_1
                        try clear hfz55_0
                        try clear hfz55_1
                        try clear hx224_0
                        try clear hx224_1
                        try clear hx231_0
                        try clear hx231_1
                        try clear hx231_2
                        try clear p2
                        try clear p22
                        try clear p224
                        try clear p23
                        try clear p231
                        try clear p6
                        try clear q027
                        try clear q045
                        try clear q048
                        try clear q2
                        try clear q22
                        try clear q224
                        try clear q23
                        try clear q231
                        try clear q27
                        try clear q4
                        try clear q45
                        try clear q48
                        obtain ⟨x94_3, rfl, HA, HK3, HO_92, BK239, HB⟩ := hrel
                        cases gk with
                        | zero => exact absurd HA.out (by simp [scholiastlaw04_ChunkCovers.l1])
                        | succ k3 =>
                          have H := HA.out
                          clear HA
                          simp only [scholiastlaw04_ChunkCovers.l1] at H
                          by_cases c56 : x94_3 < (t221.length : Int)
                          · rw [if_pos c56] at H
                            have c56b0 : decide (x94_3 < (t221.length : Int)) = true := decide_eq_true c56
                            clear c56
                            by_cases c57 : 0 ≤ x94_3
                            · rw [if_pos c57] at H
                              have c57b0 : decide (0 ≤ x94_3) = true := decide_eq_true c57
                              clear c57
                              by_cases c58 : x94_3 < (t221.length : Int)
                              · rw [if_pos c58] at H
                                have c58b0 : decide (x94_3 < (t221.length : Int)) = true := decide_eq_true c58
                                clear c58
                                by_cases c59 : ((rd_T30 t221 x94_3).f1) > a1
                                · rw [if_pos c59] at H
                                  have c59b0 : decide (a1 < ((rd_T30 t221 x94_3).f1)) = true := decide_eq_true c59
                                  clear c59
                                  by_cases c60 : x94_3 ≥ t237
                                  · rw [if_pos c60] at H
                                    have c60b0 : decide (t237 ≤ x94_3) = true := decide_eq_true c60
                                    clear c60
                                    by_cases c61 : ((decide (((rd_T30 t221 x94_3).f0) < a2)) != (decide (x94_3 < t238))) = true
                                    · rw [if_pos c61] at H
                                      have c61b0 : ((decide (((rd_T30 t221 x94_3).f0) < a2)) != (decide (x94_3 < t238))) = true := c61
                                      (try (have c61b1 : decide ((decide (((rd_T30 t221 x94_3).f0) < a2)) = (decide (x94_3 < t238))) = false := by simpa using c61))
                                      (try (have c61b2 : ((decide (((rd_T30 t221 x94_3).f0) < a2)) == (decide (x94_3 < t238))) = false := by simpa using c61))
                                      (try (have c61b3 : ¬ ((decide (((rd_T30 t221 x94_3).f0) < a2)) = (decide (x94_3 < t238))) := by simpa using c61))
                                      clear c61
                                      obtain rfl := Option.some.inj H
                                      have p240 : 0 ≤ (x94_3 : Int) := of_decide_eq_true (by first | (with_reducible assumption) | assumption)
                                      have q240 : x94_3 < (t221.length : Int) := of_decide_eq_true (by first | (with_reducible assumption) | assumption)
                                      obtain ⟨ad240, e240, hx240_0, hx240_1⟩ := at_T30 (Kd.R_reads' HO_92.out).2.2 x94_3 p240 q240
                                      cases e240
                                      replace p240 := eq_true p240
                                      replace q240 := eq_true q240
                                      go_wp2_with (first | ((with_reducible refine gate_dst (N := 14) rfl ?_); (try (refine gate_guard (by rfl) ?_; dsimp only)); refine box_event ?hg (N := 14) ?hd (cs := #[.int .i64 0, .int .i64 0]) (t := 30) ?hr ?_; (case hd => rfl); (case hg => rfl); (case hr => first | (go_simp; done) | (go_simp; rfl)); intro gb241 hg w62 hbox hb; have n0_ := Aside0.mk (Kd.R_below (Kd.R_elderB (by (with_reducible repeat (first | apply Kd.R_alloc | apply Kd.R_drewN | apply Kd.R_drew)); exact HO_92.out) gb241 (Nat.le_of_eq hg.symm)) hb); have n1_ := Aside0.mk (blk_below (g := gb239) (o := .cells #[.int .i64 t237, .int .i64 t238] 30 (0, 0)) (by (with_reducible repeat (first | refine blk_drewN ?_ _ | refine blk_drew ?_ | refine blk_alloc ?_ _)); exact BK239.out) hb); have n2_ := Aside0.mk (below_step (by repeat (first | (with_reducible first | exact HB.out | apply below_alloc | apply pw_below_drewN | apply below_drew1 | refine below_set ?_ GE239.out) | exact HB.out)) hb); have n3_ := Aside0.mk (hbox); have n4_ := Aside0.mk ((by rw [hg]; exact (below_size (by repeat (first | (with_reducible first | exact HB.out | apply below_alloc | apply pw_below_drewN | apply below_drew1 | refine below_set ?_ GE239.out) | exact HB.out))) : w.heap.size ≤ gb241)); have n5_ := Aside0.mk ((by rw [hg]; exact (below_size (by repeat (first | (with_reducible first | exact HB.out | apply below_alloc | apply pw_below_drewN | apply below_drew1 | refine below_set ?_ GE239.out) | exact HB.out))) : w.heap.size ≤ gb241)); have n6_ := Aside0.mk ((by rw [hg]; exact Nat.ne_of_lt (blk_lt (g := gb239) (o := .cells #[.int .i64 t237, .int .i64 t238] 30 (0, 0)) (by (with_reducible repeat (first | refine blk_drewN ?_ _ | refine blk_drew ?_ | refine blk_alloc ?_ _)); exact BK239.out)) : gb239 ≠ gb241)); have n7_ := Aside0.mk ((by rw [hg]; exact Nat.ne_of_gt (blk_lt (g := gb239) (o := .cells #[.int .i64 t237, .int .i64 t238] 30 (0, 0)) (by (with_reducible repeat (first | refine blk_drewN ?_ _ | refine blk_drew ?_ | refine blk_alloc ?_ _)); exact BK239.out)) : gb241 ≠ gb239)); clear HO_92; clear BK239; clear HB; have HO_92 := n0_; have BK239 := n1_; have HB := n2_; have BK241 := n3_; have GW241 := n4_; have GE241 := n5_; have NB239_241 := n6_; have NB241_239 := n7_; clear n0_ n1_ n2_ n3_ n4_ n5_ n6_ n7_; clear hb hbox hg; have hnb63 := NB241_239.out; have hnc63 := NB239_241.out; have hcz64_0 : w62.cell? ⟨gb241, 0, none⟩ = some (.int .i64 0) := (blk_cell BK241.out 0).trans rfl; have hcz64_1 : w62.cell? ⟨gb241, 1, none⟩ = some (.int .i64 0) := (blk_cell BK241.out 1).trans rfl; have hfz64_0 := blk_frozen BK241.out 0; have hfz64_1 := blk_frozen BK241.out 1; have hcz65_0 : w62.cell? ⟨gb239, 0, none⟩ = some (.int .i64 t237) := (blk_cell BK239.out 0).trans rfl; have hcz65_1 : w62.cell? ⟨gb239, 1, none⟩ = some (.int .i64 t238) := (blk_cell BK239.out 1).trans rfl; have hfz65_0 := blk_frozen BK239.out 0; have hfz65_1 := blk_frozen BK239.out 1))
                                      go_ret
                                      exact ⟨by first | rfl | (simp [errW_none, errW_some] <;> rfl) | (simp [*, errW_none, errW_some] <;> rfl), by repeat (first | (with_reducible first | exact HB.out | apply below_alloc | apply pw_below_drewN | apply below_drew1 | refine below_set ?_ GE239.out | refine below_set ?_ GE241.out) | exact HB.out)⟩
                                    · rw [if_neg c61] at H
                                      have c61b0 : ((decide (((rd_T30 t221 x94_3).f0) < a2)) != (decide (x94_3 < t238))) = false := by simpa using c61
                                      (try (have c61b1 : decide ((decide (((rd_T30 t221 x94_3).f0) < a2)) = (decide (x94_3 < t238))) = true := by simpa using c61))
                                      (try (have c61b2 : ((decide (((rd_T30 t221 x94_3).f0) < a2)) == (decide (x94_3 < t238))) = true := by simpa using c61))
                                      clear c61
                                      have H' := Aside0.mk H
                                      clear H
                                      have p240 : 0 ≤ (x94_3 : Int) := of_decide_eq_true (by first | (with_reducible assumption) | assumption)
                                      have q240 : x94_3 < (t221.length : Int) := of_decide_eq_true (by first | (with_reducible assumption) | assumption)
                                      obtain ⟨ad240, e240, hx240_0, hx240_1⟩ := at_T30 (Kd.R_reads' HO_92.out).2.2 x94_3 p240 q240
                                      cases e240
                                      replace p240 := eq_true p240
                                      replace q240 := eq_true q240
                                      go_wp2_with (first | ((with_reducible refine gate_dst (N := 14) rfl ?_); (try (refine gate_guard (by rfl) ?_; dsimp only)); refine box_event ?hg (N := 14) ?hd (cs := #[.int .i64 0, .int .i64 0]) (t := 30) ?hr ?_; (case hd => rfl); (case hg => rfl); (case hr => first | (go_simp; done) | (go_simp; rfl)); intro gb241 hg w66 hbox hb; have n0_ := Aside0.mk (Kd.R_below (Kd.R_elderB (by (with_reducible repeat (first | apply Kd.R_alloc | apply Kd.R_drewN | apply Kd.R_drew)); exact HO_92.out) gb241 (Nat.le_of_eq hg.symm)) hb); have n1_ := Aside0.mk (blk_below (g := gb239) (o := .cells #[.int .i64 t237, .int .i64 t238] 30 (0, 0)) (by (with_reducible repeat (first | refine blk_drewN ?_ _ | refine blk_drew ?_ | refine blk_alloc ?_ _)); exact BK239.out) hb); have n2_ := Aside0.mk (below_step (by repeat (first | (with_reducible first | exact HB.out | apply below_alloc | apply pw_below_drewN | apply below_drew1 | refine below_set ?_ GE239.out) | exact HB.out)) hb); have n3_ := Aside0.mk (hbox); have n4_ := Aside0.mk ((by rw [hg]; exact (below_size (by repeat (first | (with_reducible first | exact HB.out | apply below_alloc | apply pw_below_drewN | apply below_drew1 | refine below_set ?_ GE239.out) | exact HB.out))) : w.heap.size ≤ gb241)); have n5_ := Aside0.mk ((by rw [hg]; exact (below_size (by repeat (first | (with_reducible first | exact HB.out | apply below_alloc | apply pw_below_drewN | apply below_drew1 | refine below_set ?_ GE239.out) | exact HB.out))) : w.heap.size ≤ gb241)); have n6_ := Aside0.mk ((by rw [hg]; exact Nat.ne_of_lt (blk_lt (g := gb239) (o := .cells #[.int .i64 t237, .int .i64 t238] 30 (0, 0)) (by (with_reducible repeat (first | refine blk_drewN ?_ _ | refine blk_drew ?_ | refine blk_alloc ?_ _)); exact BK239.out)) : gb239 ≠ gb241)); have n7_ := Aside0.mk ((by rw [hg]; exact Nat.ne_of_gt (blk_lt (g := gb239) (o := .cells #[.int .i64 t237, .int .i64 t238] 30 (0, 0)) (by (with_reducible repeat (first | refine blk_drewN ?_ _ | refine blk_drew ?_ | refine blk_alloc ?_ _)); exact BK239.out)) : gb241 ≠ gb239)); clear HO_92; clear BK239; clear HB; have HO_92 := n0_; have BK239 := n1_; have HB := n2_; have BK241 := n3_; have GW241 := n4_; have GE241 := n5_; have NB239_241 := n6_; have NB241_239 := n7_; clear n0_ n1_ n2_ n3_ n4_ n5_ n6_ n7_; clear hb hbox hg; have hnb67 := NB241_239.out; have hnc67 := NB239_241.out; have hcz68_0 : w66.cell? ⟨gb241, 0, none⟩ = some (.int .i64 0) := (blk_cell BK241.out 0).trans rfl; have hcz68_1 : w66.cell? ⟨gb241, 1, none⟩ = some (.int .i64 0) := (blk_cell BK241.out 1).trans rfl; have hfz68_0 := blk_frozen BK241.out 0; have hfz68_1 := blk_frozen BK241.out 1; have hcz69_0 : w66.cell? ⟨gb239, 0, none⟩ = some (.int .i64 t237) := (blk_cell BK239.out 0).trans rfl; have hcz69_1 : w66.cell? ⟨gb239, 1, none⟩ = some (.int .i64 t238) := (blk_cell BK239.out 1).trans rfl; have hfz69_0 := blk_frozen BK239.out 0; have hfz69_1 := blk_frozen BK239.out 1))
                                      go_roundg k3
                                      case measure => have := HK1.out; have := HJ46.out; have := HK3.out; omega
                                      case rel => exact ⟨(wrap64 (x94_3 + 1)), (by first | rfl | (simp; done) | (simp [*]; done)), H', ⟨by have := HK1.out; have := HJ46.out; have := HK3.out; omega⟩, ⟨by (with_reducible repeat (first | apply Kd.R_alloc | apply Kd.R_drewN | apply Kd.R_drew)); exact Kd.R_mono (Kd.R_far (p := ⟨gb241, 1, none⟩) (Kd.R_far (p := ⟨gb241, 0, none⟩) (Kd.R_mono HO_92.out (fun k_ hk => (⟨hk, hk.2⟩ : _ ∧ k_ ≠ gb241))) (fun _ hk => hk.2) (.int .i64 ((rd_T30 t221 x94_3).f0))) (fun _ hk => hk.2) (.int .i64 ((rd_T30 t221 x94_3).f1))) (fun _ hk => hk.1.1)⟩, ⟨by (with_reducible repeat (first | refine blk_drewN ?_ _ | refine blk_drew ?_ | refine blk_alloc ?_ _)); refine blk_far ?_ NB239_241.out _; (with_reducible repeat (first | refine blk_drewN ?_ _ | refine blk_drew ?_ | refine blk_alloc ?_ _)); refine blk_far ?_ NB239_241.out _; (with_reducible repeat (first | refine blk_drewN ?_ _ | refine blk_drew ?_ | refine blk_alloc ?_ _)); exact BK239.out⟩, ⟨by repeat (first | (with_reducible first | exact HB.out | apply below_alloc | apply pw_below_drewN | apply below_drew1 | refine below_set ?_ GE239.out | refine below_set ?_ GE241.out) | exact HB.out)⟩⟩
                                  · rw [if_neg c60] at H
                                    have c60b0 : decide (t237 ≤ x94_3) = false := decide_eq_false c60
                                    clear c60
                                    by_cases c70 : ((decide (((rd_T30 t221 x94_3).f0) < a2)) != false) = true
                                    · rw [if_pos c70] at H
                                      have c70b0 : ((decide (((rd_T30 t221 x94_3).f0) < a2)) != false) = true := c70
                                      (try (have c70b1 : decide ((decide (((rd_T30 t221 x94_3).f0) < a2)) = false) = false := by simpa using c70))
                                      (try (have c70b2 : ((decide (((rd_T30 t221 x94_3).f0) < a2)) == false) = false := by simpa using c70))
                                      (try (have c70b3 : ¬ ((decide (((rd_T30 t221 x94_3).f0) < a2)) = false) := by simpa using c70))
                                      clear c70
                                      obtain rfl := Option.some.inj H
                                      have p240 : 0 ≤ (x94_3 : Int) := of_decide_eq_true (by first | (with_reducible assumption) | assumption)
                                      have q240 : x94_3 < (t221.length : Int) := of_decide_eq_true (by first | (with_reducible assumption) | assumption)
                                      obtain ⟨ad240, e240, hx240_0, hx240_1⟩ := at_T30 (Kd.R_reads' HO_92.out).2.2 x94_3 p240 q240
                                      cases e240
                                      replace p240 := eq_true p240
                                      replace q240 := eq_true q240
                                      go_wp2_with (first | ((with_reducible refine gate_dst (N := 14) rfl ?_); (try (refine gate_guard (by rfl) ?_; dsimp only)); refine box_event ?hg (N := 14) ?hd (cs := #[.int .i64 0, .int .i64 0]) (t := 30) ?hr ?_; (case hd => rfl); (case hg => rfl); (case hr => first | (go_simp; done) | (go_simp; rfl)); intro gb241 hg w71 hbox hb; have n0_ := Aside0.mk (Kd.R_below (Kd.R_elderB (by (with_reducible repeat (first | apply Kd.R_alloc | apply Kd.R_drewN | apply Kd.R_drew)); exact HO_92.out) gb241 (Nat.le_of_eq hg.symm)) hb); have n1_ := Aside0.mk (blk_below (g := gb239) (o := .cells #[.int .i64 t237, .int .i64 t238] 30 (0, 0)) (by (with_reducible repeat (first | refine blk_drewN ?_ _ | refine blk_drew ?_ | refine blk_alloc ?_ _)); exact BK239.out) hb); have n2_ := Aside0.mk (below_step (by repeat (first | (with_reducible first | exact HB.out | apply below_alloc | apply pw_below_drewN | apply below_drew1 | refine below_set ?_ GE239.out) | exact HB.out)) hb); have n3_ := Aside0.mk (hbox); have n4_ := Aside0.mk ((by rw [hg]; exact (below_size (by repeat (first | (with_reducible first | exact HB.out | apply below_alloc | apply pw_below_drewN | apply below_drew1 | refine below_set ?_ GE239.out) | exact HB.out))) : w.heap.size ≤ gb241)); have n5_ := Aside0.mk ((by rw [hg]; exact (below_size (by repeat (first | (with_reducible first | exact HB.out | apply below_alloc | apply pw_below_drewN | apply below_drew1 | refine below_set ?_ GE239.out) | exact HB.out))) : w.heap.size ≤ gb241)); have n6_ := Aside0.mk ((by rw [hg]; exact Nat.ne_of_lt (blk_lt (g := gb239) (o := .cells #[.int .i64 t237, .int .i64 t238] 30 (0, 0)) (by (with_reducible repeat (first | refine blk_drewN ?_ _ | refine blk_drew ?_ | refine blk_alloc ?_ _)); exact BK239.out)) : gb239 ≠ gb241)); have n7_ := Aside0.mk ((by rw [hg]; exact Nat.ne_of_gt (blk_lt (g := gb239) (o := .cells #[.int .i64 t237, .int .i64 t238] 30 (0, 0)) (by (with_reducible repeat (first | refine blk_drewN ?_ _ | refine blk_drew ?_ | refine blk_alloc ?_ _)); exact BK239.out)) : gb241 ≠ gb239)); clear HO_92; clear BK239; clear HB; have HO_92 := n0_; have BK239 := n1_; have HB := n2_; have BK241 := n3_; have GW241 := n4_; have GE241 := n5_; have NB239_241 := n6_; have NB241_239 := n7_; clear n0_ n1_ n2_ n3_ n4_ n5_ n6_ n7_; clear hb hbox hg; have hnb72 := NB241_239.out; have hnc72 := NB239_241.out; have hcz73_0 : w71.cell? ⟨gb241, 0, none⟩ = some (.int .i64 0) := (blk_cell BK241.out 0).trans rfl; have hcz73_1 : w71.cell? ⟨gb241, 1, none⟩ = some (.int .i64 0) := (blk_cell BK241.out 1).trans rfl; have hfz73_0 := blk_frozen BK241.out 0; have hfz73_1 := blk_frozen BK241.out 1; have hcz74_0 : w71.cell? ⟨gb239, 0, none⟩ = some (.int .i64 t237) := (blk_cell BK239.out 0).trans rfl; have hcz74_1 : w71.cell? ⟨gb239, 1, none⟩ = some (.int .i64 t238) := (blk_cell BK239.out 1).trans rfl; have hfz74_0 := blk_frozen BK239.out 0; have hfz74_1 := blk_frozen BK239.out 1))
                                      go_ret
                                      exact ⟨by first | rfl | (simp [errW_none, errW_some] <;> rfl) | (simp [*, errW_none, errW_some] <;> rfl), by repeat (first | (with_reducible first | exact HB.out | apply below_alloc | apply pw_below_drewN | apply below_drew1 | refine below_set ?_ GE239.out | refine below_set ?_ GE241.out) | exact HB.out)⟩
                                    · rw [if_neg c70] at H
                                      have c70b0 : ((decide (((rd_T30 t221 x94_3).f0) < a2)) != false) = false := by simpa using c70
                                      (try (have c70b1 : decide ((decide (((rd_T30 t221 x94_3).f0) < a2)) = false) = true := by simpa using c70))
                                      (try (have c70b2 : ((decide (((rd_T30 t221 x94_3).f0) < a2)) == false) = true := by simpa using c70))
                                      clear c70
                                      have H' := Aside0.mk H
                                      clear H
                                      have p240 : 0 ≤ (x94_3 : Int) := of_decide_eq_true (by first | (with_reducible assumption) | assumption)
                                      have q240 : x94_3 < (t221.length : Int) := of_decide_eq_true (by first | (with_reducible assumption) | assumption)
                                      obtain ⟨ad240, e240, hx240_0, hx240_1⟩ := at_T30 (Kd.R_reads' HO_92.out).2.2 x94_3 p240 q240
                                      cases e240
                                      replace p240 := eq_true p240
                                      replace q240 := eq_true q240
                                      go_wp2_with (first | ((with_reducible refine gate_dst (N := 14) rfl ?_); (try (refine gate_guard (by rfl) ?_; dsimp only)); refine box_event ?hg (N := 14) ?hd (cs := #[.int .i64 0, .int .i64 0]) (t := 30) ?hr ?_; (case hd => rfl); (case hg => rfl); (case hr => first | (go_simp; done) | (go_simp; rfl)); intro gb241 hg w75 hbox hb; have n0_ := Aside0.mk (Kd.R_below (Kd.R_elderB (by (with_reducible repeat (first | apply Kd.R_alloc | apply Kd.R_drewN | apply Kd.R_drew)); exact HO_92.out) gb241 (Nat.le_of_eq hg.symm)) hb); have n1_ := Aside0.mk (blk_below (g := gb239) (o := .cells #[.int .i64 t237, .int .i64 t238] 30 (0, 0)) (by (with_reducible repeat (first | refine blk_drewN ?_ _ | refine blk_drew ?_ | refine blk_alloc ?_ _)); exact BK239.out) hb); have n2_ := Aside0.mk (below_step (by repeat (first | (with_reducible first | exact HB.out | apply below_alloc | apply pw_below_drewN | apply below_drew1 | refine below_set ?_ GE239.out) | exact HB.out)) hb); have n3_ := Aside0.mk (hbox); have n4_ := Aside0.mk ((by rw [hg]; exact (below_size (by repeat (first | (with_reducible first | exact HB.out | apply below_alloc | apply pw_below_drewN | apply below_drew1 | refine below_set ?_ GE239.out) | exact HB.out))) : w.heap.size ≤ gb241)); have n5_ := Aside0.mk ((by rw [hg]; exact (below_size (by repeat (first | (with_reducible first | exact HB.out | apply below_alloc | apply pw_below_drewN | apply below_drew1 | refine below_set ?_ GE239.out) | exact HB.out))) : w.heap.size ≤ gb241)); have n6_ := Aside0.mk ((by rw [hg]; exact Nat.ne_of_lt (blk_lt (g := gb239) (o := .cells #[.int .i64 t237, .int .i64 t238] 30 (0, 0)) (by (with_reducible repeat (first | refine blk_drewN ?_ _ | refine blk_drew ?_ | refine blk_alloc ?_ _)); exact BK239.out)) : gb239 ≠ gb241)); have n7_ := Aside0.mk ((by rw [hg]; exact Nat.ne_of_gt (blk_lt (g := gb239) (o := .cells #[.int .i64 t237, .int .i64 t238] 30 (0, 0)) (by (with_reducible repeat (first | refine blk_drewN ?_ _ | refine blk_drew ?_ | refine blk_alloc ?_ _)); exact BK239.out)) : gb241 ≠ gb239)); clear HO_92; clear BK239; clear HB; have HO_92 := n0_; have BK239 := n1_; have HB := n2_; have BK241 := n3_; have GW241 := n4_; have GE241 := n5_; have NB239_241 := n6_; have NB241_239 := n7_; clear n0_ n1_ n2_ n3_ n4_ n5_ n6_ n7_; clear hb hbox hg; have hnb76 := NB241_239.out; have hnc76 := NB239_241.out; have hcz77_0 : w75.cell? ⟨gb241, 0, none⟩ = some (.int .i64 0) := (blk_cell BK241.out 0).trans rfl; have hcz77_1 : w75.cell? ⟨gb241, 1, none⟩ = some (.int .i64 0) := (blk_cell BK241.out 1).trans rfl; have hfz77_0 := blk_frozen BK241.out 0; have hfz77_1 := blk_frozen BK241.out 1; have hcz78_0 : w75.cell? ⟨gb239, 0, none⟩ = some (.int .i64 t237) := (blk_cell BK239.out 0).trans rfl; have hcz78_1 : w75.cell? ⟨gb239, 1, none⟩ = some (.int .i64 t238) := (blk_cell BK239.out 1).trans rfl; have hfz78_0 := blk_frozen BK239.out 0; have hfz78_1 := blk_frozen BK239.out 1))
                                      go_roundg k3
                                      case measure => have := HK1.out; have := HJ46.out; have := HK3.out; omega
                                      case rel => exact ⟨(wrap64 (x94_3 + 1)), (by first | rfl | (simp; done) | (simp [*]; done)), H', ⟨by have := HK1.out; have := HJ46.out; have := HK3.out; omega⟩, ⟨by (with_reducible repeat (first | apply Kd.R_alloc | apply Kd.R_drewN | apply Kd.R_drew)); exact Kd.R_mono (Kd.R_far (p := ⟨gb241, 1, none⟩) (Kd.R_far (p := ⟨gb241, 0, none⟩) (Kd.R_mono HO_92.out (fun k_ hk => (⟨hk, hk.2⟩ : _ ∧ k_ ≠ gb241))) (fun _ hk => hk.2) (.int .i64 ((rd_T30 t221 x94_3).f0))) (fun _ hk => hk.2) (.int .i64 ((rd_T30 t221 x94_3).f1))) (fun _ hk => hk.1.1)⟩, ⟨by (with_reducible repeat (first | refine blk_drewN ?_ _ | refine blk_drew ?_ | refine blk_alloc ?_ _)); refine blk_far ?_ NB239_241.out _; (with_reducible repeat (first | refine blk_drewN ?_ _ | refine blk_drew ?_ | refine blk_alloc ?_ _)); refine blk_far ?_ NB239_241.out _; (with_reducible repeat (first | refine blk_drewN ?_ _ | refine blk_drew ?_ | refine blk_alloc ?_ _)); exact BK239.out⟩, ⟨by repeat (first | (with_reducible first | exact HB.out | apply below_alloc | apply pw_below_drewN | apply below_drew1 | refine below_set ?_ GE239.out | refine below_set ?_ GE241.out) | exact HB.out)⟩⟩
                                · rw [if_neg c59] at H
                                  have c59b0 : decide (a1 < ((rd_T30 t221 x94_3).f1)) = false := decide_eq_false c59
                                  clear c59
                                  by_cases c79 : x94_3 ≥ t237
                                  · rw [if_pos c79] at H
                                    have c79b0 : decide (t237 ≤ x94_3) = true := decide_eq_true c79
                                    clear c79
                                    by_cases c80 : (false != (decide (x94_3 < t238))) = true
                                    · rw [if_pos c80] at H
                                      have c80b0 : (false != (decide (x94_3 < t238))) = true := c80
                                      (try (have c80b1 : decide (false = (decide (x94_3 < t238))) = false := by simpa using c80))
                                      (try (have c80b2 : (false == (decide (x94_3 < t238))) = false := by simpa using c80))
                                      (try (have c80b3 : ¬ (false = (decide (x94_3 < t238))) := by simpa using c80))
                                      clear c80
                                      obtain rfl := Option.some.inj H
                                      have p240 : 0 ≤ (x94_3 : Int) := of_decide_eq_true (by first | (with_reducible assumption) | assumption)
                                      have q240 : x94_3 < (t221.length : Int) := of_decide_eq_true (by first | (with_reducible assumption) | assumption)
                                      obtain ⟨ad240, e240, hx240_0, hx240_1⟩ := at_T30 (Kd.R_reads' HO_92.out).2.2 x94_3 p240 q240
                                      cases e240
                                      replace p240 := eq_true p240
                                      replace q240 := eq_true q240
                                      go_wp2_with (first | ((with_reducible refine gate_dst (N := 14) rfl ?_); (try (refine gate_guard (by rfl) ?_; dsimp only)); refine box_event ?hg (N := 14) ?hd (cs := #[.int .i64 0, .int .i64 0]) (t := 30) ?hr ?_; (case hd => rfl); (case hg => rfl); (case hr => first | (go_simp; done) | (go_simp; rfl)); intro gb241 hg w81 hbox hb; have n0_ := Aside0.mk (Kd.R_below (Kd.R_elderB (by (with_reducible repeat (first | apply Kd.R_alloc | apply Kd.R_drewN | apply Kd.R_drew)); exact HO_92.out) gb241 (Nat.le_of_eq hg.symm)) hb); have n1_ := Aside0.mk (blk_below (g := gb239) (o := .cells #[.int .i64 t237, .int .i64 t238] 30 (0, 0)) (by (with_reducible repeat (first | refine blk_drewN ?_ _ | refine blk_drew ?_ | refine blk_alloc ?_ _)); exact BK239.out) hb); have n2_ := Aside0.mk (below_step (by repeat (first | (with_reducible first | exact HB.out | apply below_alloc | apply pw_below_drewN | apply below_drew1 | refine below_set ?_ GE239.out) | exact HB.out)) hb); have n3_ := Aside0.mk (hbox); have n4_ := Aside0.mk ((by rw [hg]; exact (below_size (by repeat (first | (with_reducible first | exact HB.out | apply below_alloc | apply pw_below_drewN | apply below_drew1 | refine below_set ?_ GE239.out) | exact HB.out))) : w.heap.size ≤ gb241)); have n5_ := Aside0.mk ((by rw [hg]; exact (below_size (by repeat (first | (with_reducible first | exact HB.out | apply below_alloc | apply pw_below_drewN | apply below_drew1 | refine below_set ?_ GE239.out) | exact HB.out))) : w.heap.size ≤ gb241)); have n6_ := Aside0.mk ((by rw [hg]; exact Nat.ne_of_lt (blk_lt (g := gb239) (o := .cells #[.int .i64 t237, .int .i64 t238] 30 (0, 0)) (by (with_reducible repeat (first | refine blk_drewN ?_ _ | refine blk_drew ?_ | refine blk_alloc ?_ _)); exact BK239.out)) : gb239 ≠ gb241)); have n7_ := Aside0.mk ((by rw [hg]; exact Nat.ne_of_gt (blk_lt (g := gb239) (o := .cells #[.int .i64 t237, .int .i64 t238] 30 (0, 0)) (by (with_reducible repeat (first | refine blk_drewN ?_ _ | refine blk_drew ?_ | refine blk_alloc ?_ _)); exact BK239.out)) : gb241 ≠ gb239)); clear HO_92; clear BK239; clear HB; have HO_92 := n0_; have BK239 := n1_; have HB := n2_; have BK241 := n3_; have GW241 := n4_; have GE241 := n5_; have NB239_241 := n6_; have NB241_239 := n7_; clear n0_ n1_ n2_ n3_ n4_ n5_ n6_ n7_; clear hb hbox hg; have hnb82 := NB241_239.out; have hnc82 := NB239_241.out; have hcz83_0 : w81.cell? ⟨gb241, 0, none⟩ = some (.int .i64 0) := (blk_cell BK241.out 0).trans rfl; have hcz83_1 : w81.cell? ⟨gb241, 1, none⟩ = some (.int .i64 0) := (blk_cell BK241.out 1).trans rfl; have hfz83_0 := blk_frozen BK241.out 0; have hfz83_1 := blk_frozen BK241.out 1; have hcz84_0 : w81.cell? ⟨gb239, 0, none⟩ = some (.int .i64 t237) := (blk_cell BK239.out 0).trans rfl; have hcz84_1 : w81.cell? ⟨gb239, 1, none⟩ = some (.int .i64 t238) := (blk_cell BK239.out 1).trans rfl; have hfz84_0 := blk_frozen BK239.out 0; have hfz84_1 := blk_frozen BK239.out 1))
                                      go_ret
                                      exact ⟨by first | rfl | (simp [errW_none, errW_some] <;> rfl) | (simp [*, errW_none, errW_some] <;> rfl), by repeat (first | (with_reducible first | exact HB.out | apply below_alloc | apply pw_below_drewN | apply below_drew1 | refine below_set ?_ GE239.out | refine below_set ?_ GE241.out) | exact HB.out)⟩
                                    · rw [if_neg c80] at H
                                      have c80b0 : (false != (decide (x94_3 < t238))) = false := by simpa using c80
                                      (try (have c80b1 : decide (false = (decide (x94_3 < t238))) = true := by simpa using c80))
                                      (try (have c80b2 : (false == (decide (x94_3 < t238))) = true := by simpa using c80))
                                      clear c80
                                      have H' := Aside0.mk H
                                      clear H
                                      have p240 : 0 ≤ (x94_3 : Int) := of_decide_eq_true (by first | (with_reducible assumption) | assumption)
                                      have q240 : x94_3 < (t221.length : Int) := of_decide_eq_true (by first | (with_reducible assumption) | assumption)
                                      obtain ⟨ad240, e240, hx240_0, hx240_1⟩ := at_T30 (Kd.R_reads' HO_92.out).2.2 x94_3 p240 q240
                                      cases e240
                                      replace p240 := eq_true p240
                                      replace q240 := eq_true q240
                                      go_wp2_with (first | ((with_reducible refine gate_dst (N := 14) rfl ?_); (try (refine gate_guard (by rfl) ?_; dsimp only)); refine box_event ?hg (N := 14) ?hd (cs := #[.int .i64 0, .int .i64 0]) (t := 30) ?hr ?_; (case hd => rfl); (case hg => rfl); (case hr => first | (go_simp; done) | (go_simp; rfl)); intro gb241 hg w85 hbox hb; have n0_ := Aside0.mk (Kd.R_below (Kd.R_elderB (by (with_reducible repeat (first | apply Kd.R_alloc | apply Kd.R_drewN | apply Kd.R_drew)); exact HO_92.out) gb241 (Nat.le_of_eq hg.symm)) hb); have n1_ := Aside0.mk (blk_below (g := gb239) (o := .cells #[.int .i64 t237, .int .i64 t238] 30 (0, 0)) (by (with_reducible repeat (first | refine blk_drewN ?_ _ | refine blk_drew ?_ | refine blk_alloc ?_ _)); exact BK239.out) hb); have n2_ := Aside0.mk (below_step (by repeat (first | (with_reducible first | exact HB.out | apply below_alloc | apply pw_below_drewN | apply below_drew1 | refine below_set ?_ GE239.out) | exact HB.out)) hb); have n3_ := Aside0.mk (hbox); have n4_ := Aside0.mk ((by rw [hg]; exact (below_size (by repeat (first | (with_reducible first | exact HB.out | apply below_alloc | apply pw_below_drewN | apply below_drew1 | refine below_set ?_ GE239.out) | exact HB.out))) : w.heap.size ≤ gb241)); have n5_ := Aside0.mk ((by rw [hg]; exact (below_size (by repeat (first | (with_reducible first | exact HB.out | apply below_alloc | apply pw_below_drewN | apply below_drew1 | refine below_set ?_ GE239.out) | exact HB.out))) : w.heap.size ≤ gb241)); have n6_ := Aside0.mk ((by rw [hg]; exact Nat.ne_of_lt (blk_lt (g := gb239) (o := .cells #[.int .i64 t237, .int .i64 t238] 30 (0, 0)) (by (with_reducible repeat (first | refine blk_drewN ?_ _ | refine blk_drew ?_ | refine blk_alloc ?_ _)); exact BK239.out)) : gb239 ≠ gb241)); have n7_ := Aside0.mk ((by rw [hg]; exact Nat.ne_of_gt (blk_lt (g := gb239) (o := .cells #[.int .i64 t237, .int .i64 t238] 30 (0, 0)) (by (with_reducible repeat (first | refine blk_drewN ?_ _ | refine blk_drew ?_ | refine blk_alloc ?_ _)); exact BK239.out)) : gb241 ≠ gb239)); clear HO_92; clear BK239; clear HB; have HO_92 := n0_; have BK239 := n1_; have HB := n2_; have BK241 := n3_; have GW241 := n4_; have GE241 := n5_; have NB239_241 := n6_; have NB241_239 := n7_; clear n0_ n1_ n2_ n3_ n4_ n5_ n6_ n7_; clear hb hbox hg; have hnb86 := NB241_239.out; have hnc86 := NB239_241.out; have hcz87_0 : w85.cell? ⟨gb241, 0, none⟩ = some (.int .i64 0) := (blk_cell BK241.out 0).trans rfl; have hcz87_1 : w85.cell? ⟨gb241, 1, none⟩ = some (.int .i64 0) := (blk_cell BK241.out 1).trans rfl; have hfz87_0 := blk_frozen BK241.out 0; have hfz87_1 := blk_frozen BK241.out 1; have hcz88_0 : w85.cell? ⟨gb239, 0, none⟩ = some (.int .i64 t237) := (blk_cell BK239.out 0).trans rfl; have hcz88_1 : w85.cell? ⟨gb239, 1, none⟩ = some (.int .i64 t238) := (blk_cell BK239.out 1).trans rfl; have hfz88_0 := blk_frozen BK239.out 0; have hfz88_1 := blk_frozen BK239.out 1))
                                      go_roundg k3
                                      case measure => have := HK1.out; have := HJ46.out; have := HK3.out; omega
                                      case rel => exact ⟨(wrap64 (x94_3 + 1)), (by first | rfl | (simp; done) | (simp [*]; done)), H', ⟨by have := HK1.out; have := HJ46.out; have := HK3.out; omega⟩, ⟨by (with_reducible repeat (first | apply Kd.R_alloc | apply Kd.R_drewN | apply Kd.R_drew)); exact Kd.R_mono (Kd.R_far (p := ⟨gb241, 1, none⟩) (Kd.R_far (p := ⟨gb241, 0, none⟩) (Kd.R_mono HO_92.out (fun k_ hk => (⟨hk, hk.2⟩ : _ ∧ k_ ≠ gb241))) (fun _ hk => hk.2) (.int .i64 ((rd_T30 t221 x94_3).f0))) (fun _ hk => hk.2) (.int .i64 ((rd_T30 t221 x94_3).f1))) (fun _ hk => hk.1.1)⟩, ⟨by (with_reducible repeat (first | refine blk_drewN ?_ _ | refine blk_drew ?_ | refine blk_alloc ?_ _)); refine blk_far ?_ NB239_241.out _; (with_reducible repeat (first | refine blk_drewN ?_ _ | refine blk_drew ?_ | refine blk_alloc ?_ _)); refine blk_far ?_ NB239_241.out _; (with_reducible repeat (first | refine blk_drewN ?_ _ | refine blk_drew ?_ | refine blk_alloc ?_ _)); exact BK239.out⟩, ⟨by repeat (first | (with_reducible first | exact HB.out | apply below_alloc | apply pw_below_drewN | apply below_drew1 | refine below_set ?_ GE239.out | refine below_set ?_ GE241.out) | exact HB.out)⟩⟩
                                  · rw [if_neg c79] at H
                                    have c79b0 : decide (t237 ≤ x94_3) = false := decide_eq_false c79
                                    clear c79
                                    have H' := Aside0.mk H
                                    clear H
                                    have p240 : 0 ≤ (x94_3 : Int) := of_decide_eq_true (by first | (with_reducible assumption) | assumption)
                                    have q240 : x94_3 < (t221.length : Int) := of_decide_eq_true (by first | (with_reducible assumption) | assumption)
                                    obtain ⟨ad240, e240, hx240_0, hx240_1⟩ := at_T30 (Kd.R_reads' HO_92.out).2.2 x94_3 p240 q240
                                    cases e240
                                    replace p240 := eq_true p240
                                    replace q240 := eq_true q240
                                    go_wp2_with (first | ((with_reducible refine gate_dst (N := 14) rfl ?_); (try (refine gate_guard (by rfl) ?_; dsimp only)); refine box_event ?hg (N := 14) ?hd (cs := #[.int .i64 0, .int .i64 0]) (t := 30) ?hr ?_; (case hd => rfl); (case hg => rfl); (case hr => first | (go_simp; done) | (go_simp; rfl)); intro gb241 hg w89 hbox hb; have n0_ := Aside0.mk (Kd.R_below (Kd.R_elderB (by (with_reducible repeat (first | apply Kd.R_alloc | apply Kd.R_drewN | apply Kd.R_drew)); exact HO_92.out) gb241 (Nat.le_of_eq hg.symm)) hb); have n1_ := Aside0.mk (blk_below (g := gb239) (o := .cells #[.int .i64 t237, .int .i64 t238] 30 (0, 0)) (by (with_reducible repeat (first | refine blk_drewN ?_ _ | refine blk_drew ?_ | refine blk_alloc ?_ _)); exact BK239.out) hb); have n2_ := Aside0.mk (below_step (by repeat (first | (with_reducible first | exact HB.out | apply below_alloc | apply pw_below_drewN | apply below_drew1 | refine below_set ?_ GE239.out) | exact HB.out)) hb); have n3_ := Aside0.mk (hbox); have n4_ := Aside0.mk ((by rw [hg]; exact (below_size (by repeat (first | (with_reducible first | exact HB.out | apply below_alloc | apply pw_below_drewN | apply below_drew1 | refine below_set ?_ GE239.out) | exact HB.out))) : w.heap.size ≤ gb241)); have n5_ := Aside0.mk ((by rw [hg]; exact (below_size (by repeat (first | (with_reducible first | exact HB.out | apply below_alloc | apply pw_below_drewN | apply below_drew1 | refine below_set ?_ GE239.out) | exact HB.out))) : w.heap.size ≤ gb241)); have n6_ := Aside0.mk ((by rw [hg]; exact Nat.ne_of_lt (blk_lt (g := gb239) (o := .cells #[.int .i64 t237, .int .i64 t238] 30 (0, 0)) (by (with_reducible repeat (first | refine blk_drewN ?_ _ | refine blk_drew ?_ | refine blk_alloc ?_ _)); exact BK239.out)) : gb239 ≠ gb241)); have n7_ := Aside0.mk ((by rw [hg]; exact Nat.ne_of_gt (blk_lt (g := gb239) (o := .cells #[.int .i64 t237, .int .i64 t238] 30 (0, 0)) (by (with_reducible repeat (first | refine blk_drewN ?_ _ | refine blk_drew ?_ | refine blk_alloc ?_ _)); exact BK239.out)) : gb241 ≠ gb239)); clear HO_92; clear BK239; clear HB; have HO_92 := n0_; have BK239 := n1_; have HB := n2_; have BK241 := n3_; have GW241 := n4_; have GE241 := n5_; have NB239_241 := n6_; have NB241_239 := n7_; clear n0_ n1_ n2_ n3_ n4_ n5_ n6_ n7_; clear hb hbox hg; have hnb90 := NB241_239.out; have hnc90 := NB239_241.out; have hcz91_0 : w89.cell? ⟨gb241, 0, none⟩ = some (.int .i64 0) := (blk_cell BK241.out 0).trans rfl; have hcz91_1 : w89.cell? ⟨gb241, 1, none⟩ = some (.int .i64 0) := (blk_cell BK241.out 1).trans rfl; have hfz91_0 := blk_frozen BK241.out 0; have hfz91_1 := blk_frozen BK241.out 1; have hcz92_0 : w89.cell? ⟨gb239, 0, none⟩ = some (.int .i64 t237) := (blk_cell BK239.out 0).trans rfl; have hcz92_1 : w89.cell? ⟨gb239, 1, none⟩ = some (.int .i64 t238) := (blk_cell BK239.out 1).trans rfl; have hfz92_0 := blk_frozen BK239.out 0; have hfz92_1 := blk_frozen BK239.out 1))
                                    go_roundg k3
                                    case measure => have := HK1.out; have := HJ46.out; have := HK3.out; omega
                                    case rel => exact ⟨(wrap64 (x94_3 + 1)), (by first | rfl | (simp; done) | (simp [*]; done)), H', ⟨by have := HK1.out; have := HJ46.out; have := HK3.out; omega⟩, ⟨by (with_reducible repeat (first | apply Kd.R_alloc | apply Kd.R_drewN | apply Kd.R_drew)); exact Kd.R_mono (Kd.R_far (p := ⟨gb241, 1, none⟩) (Kd.R_far (p := ⟨gb241, 0, none⟩) (Kd.R_mono HO_92.out (fun k_ hk => (⟨hk, hk.2⟩ : _ ∧ k_ ≠ gb241))) (fun _ hk => hk.2) (.int .i64 ((rd_T30 t221 x94_3).f0))) (fun _ hk => hk.2) (.int .i64 ((rd_T30 t221 x94_3).f1))) (fun _ hk => hk.1.1)⟩, ⟨by (with_reducible repeat (first | refine blk_drewN ?_ _ | refine blk_drew ?_ | refine blk_alloc ?_ _)); refine blk_far ?_ NB239_241.out _; (with_reducible repeat (first | refine blk_drewN ?_ _ | refine blk_drew ?_ | refine blk_alloc ?_ _)); refine blk_far ?_ NB239_241.out _; (with_reducible repeat (first | refine blk_drewN ?_ _ | refine blk_drew ?_ | refine blk_alloc ?_ _)); exact BK239.out⟩, ⟨by repeat (first | (with_reducible first | exact HB.out | apply below_alloc | apply pw_below_drewN | apply below_drew1 | refine below_set ?_ GE239.out | refine below_set ?_ GE241.out) | exact HB.out)⟩⟩
                              · rw [if_neg c58] at H
                                exact absurd H (by simp)
                            · rw [if_neg c57] at H
                              exact absurd H (by simp)
                          · rw [if_neg c56] at H
                            have c56b0 : decide (x94_3 < (t221.length : Int)) = false := decide_eq_false c56
                            clear c56
                            obtain rfl := Option.some.inj H
                            go_wp2
                            go_ret
                            exact ⟨by first | rfl | (simp [errW_none, errW_some] <;> rfl) | (simp [*, errW_none, errW_some] <;> rfl), by repeat (first | (with_reducible first | exact HB.out | apply below_alloc | apply pw_below_drewN | apply below_drew1 | refine below_set ?_ GE239.out) | exact HB.out)⟩
            · rw [if_neg c42] at H
              exact absurd H (by simp)
          · rw [if_neg c41] at H
            exact absurd H (by simp)
  · replace c5 := Bool.eq_false_iff.mpr c5
    subst c5
    have H1 : (some false) = some r := by rw [if_neg (show ¬ (false = true) by decide)] at H; exact H
    clear H
    have H := H1
    clear H1
    obtain rfl := Option.some.inj H
    go_enter Try.func6, Try.ntmps6
    go_wp2_with (first | ((with_reducible refine gate_callee (f := 9) rfl ?_); refine goesL_ (some 15) rfl rfl Try.func9 (by kernel_rfl) rfl #[] rfl (by (try simp only [List.map_toArray, List.map_cons, List.map_nil]); first | done | rfl | (simp only [List.length_drop, List.length_take]; rfl)) ?_; (with_reducible refine (scholiastlaw04_shown.calls k  false _ A4.out).mono ?_); rintro e w93 ⟨rfl, hb⟩; refine ⟨_, rfl, ?_⟩; have n0_ := Aside0.mk (below_step (by repeat (first | (with_reducible first | exact HB.out | apply below_alloc | apply pw_below_drewN | apply below_drew1) | exact HB.out)) hb); clear HB; have HB := n0_; clear n0_; (try clear hb); (try clear hb2); (try clear hk); (try clear hi)))
    go_ret
    exact ⟨by first | rfl | (simp [errW_none, errW_some] <;> rfl) | (simp [*, errW_none, errW_some] <;> rfl), by repeat (first | (with_reducible first | exact HB.out | apply below_alloc | apply pw_below_drewN | apply below_drew1) | exact HB.out)⟩

end Go.Proofs.Ytcejdokeaoklaaa.PChk
