-- Written by a program of this session (wip/tools/printseat.sh).
import Derived.Test.YtcejdokeaoklaaaDoorPImpx0
import Derived.Test.YtcejdokeaoklaaaDoorPImpx8
import Derived.Test.YtcejdokeaoklaaaDoorPImpx11
namespace Go.Proofs.YtcejdokeaoklaaaDoor.PImp
open Go.RowKit Go.Proofs.YtcejdokeaoklaaaDoorW.PrintWords Go.Proofs.YtcejdokeaoklaaaDoorW.PrintLast Go.Proofs.YtcejdokeaoklaaaDoorW.PrintMore
attribute [local go_sem] max2_int min2_int max_two min_two max_three min_three max_four min_four   -- for this text's walks alone
set_option linter.unusedVariables false
set_option linter.unusedSimpArgs false
/-! ### rf_Order: function 15 -/
mutual
def rf_Order.l0 : Nat → List ByteArray → List (S46) → List ByteArray → List ByteArray → Option (List ByteArray × List ByteArray × Int)
 | 0, _, _, _, _ => none
 | k + 1, x0, x1, x8, x9 => rf_Order.l1 k x0 x1 x8 x9 (⟨#[]⟩ : ByteArray) 0
def rf_Order.l1 : Nat → List ByteArray → List (S46) → List ByteArray → List ByteArray → ByteArray → Int → Option (List ByteArray × List ByteArray × Int)
 | 0, _, _, _, _, _, _ => none
 | k + 1, x0, x1, x8, x9, x10, x11 => if x11 < (x8.length : Int) then (rf_Order.j2 k x0 x1 x8 x9 x10 x11 (x10.toList == ([] : List UInt8))) else (rf_Order.j2 k x0 x1 x8 x9 x10 x11 false)
def rf_Order.j2 : Nat → List ByteArray → List (S46) → List ByteArray → List ByteArray → ByteArray → Int → Bool → Option (List ByteArray × List ByteArray × Int)
 | 0, _, _, _, _, _, _, _ => none
 | k + 1, x0, x1, x8, x9, x10, x11, x33 => if x33 = true then (if 0 ≤ x11 then (if x11 < (x8.length : Int) then ((scholiastref13_has.f k x9 (rdOf ByteArray.empty x8 x11)).bind fun t230 => ((rf_imports.f k x0 x1 (rdOf ByteArray.empty x8 x11)).bind fun t232 => (rf_Order.l2 k x0 x1 x8 x9 x10 x11 (!t230) t232 0))) else (none)) else (none)) else (if x10.toList = ([] : List UInt8) then (rf_Order.l3 k x8 x9 (([] : List ByteArray)) 0) else (if x9.length < 8796093022208 then (rf_Order.l0 k x0 x1 x8 (x9 ++ [x10])) else (none)))
def rf_Order.l2 : Nat → List ByteArray → List (S46) → List ByteArray → List ByteArray → ByteArray → Int → Bool → List ByteArray → Int → Option (List ByteArray × List ByteArray × Int)
 | 0, _, _, _, _, _, _, _, _, _ => none
 | k + 1, x0, x1, x8, x9, x10, x11, x12, x13, x14 => if x14 < (x13.length : Int) then (if x12 = true then (if 0 ≤ x14 then ((scholiastref13_has.f k x9 (rdOf ByteArray.empty x13 x14)).bind fun t236 => (rf_Order.l2 k x0 x1 x8 x9 x10 x11 t236 x13 (wrap64 (x14 + 1)))) else (none)) else (rf_Order.l2 k x0 x1 x8 x9 x10 x11 false x13 (wrap64 (x14 + 1)))) else (if x12 = true then (if 0 ≤ x11 then (if x11 < (x8.length : Int) then (rf_Order.l1 k x0 x1 x8 x9 (rdOf ByteArray.empty x8 x11) (wrap64 (x11 + 1))) else (none)) else (none)) else (rf_Order.l1 k x0 x1 x8 x9 x10 (wrap64 (x11 + 1))))
def rf_Order.l3 : Nat → List ByteArray → List ByteArray → List ByteArray → Int → Option (List ByteArray × List ByteArray × Int)
 | 0, _, _, _, _ => none
 | k + 1, x8, x9, x15, x16 => if x16 < (x8.length : Int) then (if 0 ≤ x16 then ((scholiastref13_has.f k x9 (rdOf ByteArray.empty x8 x16)).bind fun t242 => (if t242 = true then (rf_Order.l3 k x8 x9 x15 (wrap64 (x16 + 1))) else (if x15.length < 8796093022208 then (rf_Order.l3 k x8 x9 (x15 ++ [rdOf ByteArray.empty x8 x16]) (wrap64 (x16 + 1))) else (none)))) else (none)) else (some (x9, x15, 0))
end
def rf_Order.f (k : Nat) (l0 : List ByteArray) (l1 : List (S46)) : Option (List ByteArray × List ByteArray × Int) := (rf_right.f k l0 l1).bind fun t219 => (if t219 = 0 then ((scholiastref13_Folders.f k l0).bind fun t220 => (rf_Order.l0 k l0 l1 t220 (([] : List ByteArray)))) else (some (([] : List ByteArray), ([] : List ByteArray), t219)))
theorem rf_Order.mono_l : ∀ k, (∀ y0 y1 y2 y3, LeO (rf_Order.l0 k y0 y1 y2 y3) (rf_Order.l0 (k + 1) y0 y1 y2 y3)) ∧ (∀ y0 y1 y2 y3 y4 y5, LeO (rf_Order.l1 k y0 y1 y2 y3 y4 y5) (rf_Order.l1 (k + 1) y0 y1 y2 y3 y4 y5)) ∧ (∀ y0 y1 y2 y3 y4 y5 y6, LeO (rf_Order.j2 k y0 y1 y2 y3 y4 y5 y6) (rf_Order.j2 (k + 1) y0 y1 y2 y3 y4 y5 y6)) ∧ (∀ y0 y1 y2 y3 y4 y5 y6 y7 y8, LeO (rf_Order.l2 k y0 y1 y2 y3 y4 y5 y6 y7 y8) (rf_Order.l2 (k + 1) y0 y1 y2 y3 y4 y5 y6 y7 y8)) ∧ (∀ y0 y1 y2 y3, LeO (rf_Order.l3 k y0 y1 y2 y3) (rf_Order.l3 (k + 1) y0 y1 y2 y3))
 | 0 => ⟨fun _ _ _ _ r h => by simp [rf_Order.l0] at h, fun _ _ _ _ _ _ r h => by simp [rf_Order.l1] at h, fun _ _ _ _ _ _ _ r h => by simp [rf_Order.j2] at h, fun _ _ _ _ _ _ _ _ _ r h => by simp [rf_Order.l2] at h, fun _ _ _ _ r h => by simp [rf_Order.l3] at h⟩
 | k + 1 => by
  obtain ⟨ih0, ih1, ih2, ih3, ih4⟩ := rf_Order.mono_l k
  refine ⟨?_, ?_, ?_, ?_, ?_⟩
  ·intro y0 y1 y2 y3
   unfold rf_Order.l0
   repeat' first
   | (with_reducible exact ih0 _ _ _ _)
   | (with_reducible exact ih1 _ _ _ _ _ _)
   | (with_reducible exact ih2 _ _ _ _ _ _ _)
   | (with_reducible exact ih3 _ _ _ _ _ _ _ _ _)
   | (with_reducible exact ih4 _ _ _ _)
   | (with_reducible exact scholiastref13_Folders.mono _ _)
   | (with_reducible exact scholiastref13_has.mono _ _ _)
   | (with_reducible exact rf_imports.mono _ _ _ _)
   | (with_reducible exact rf_right.mono _ _ _)
   | (with_reducible exact LeO.refl _)
   | (with_reducible exact LeO.none _)
   | (with_reducible refine LeO.ite ?_ ?_)
   | (with_reducible refine LeO.bind ?_ (fun _ => ?_))
   | exact ih0 _ _ _ _
   | exact ih1 _ _ _ _ _ _
   | exact ih2 _ _ _ _ _ _ _
   | exact ih3 _ _ _ _ _ _ _ _ _
   | exact ih4 _ _ _ _
   | exact scholiastref13_Folders.mono _ _
   | exact scholiastref13_has.mono _ _ _
   | exact rf_imports.mono _ _ _ _
   | exact rf_right.mono _ _ _
   | exact LeO.none _
   | refine LeO.ite ?_ ?_
   | refine LeO.bind ?_ (fun _ => ?_)
  ·intro y0 y1 y2 y3 y4 y5
   unfold rf_Order.l1
   repeat' first
   | (with_reducible exact ih0 _ _ _ _)
   | (with_reducible exact ih1 _ _ _ _ _ _)
   | (with_reducible exact ih2 _ _ _ _ _ _ _)
   | (with_reducible exact ih3 _ _ _ _ _ _ _ _ _)
   | (with_reducible exact ih4 _ _ _ _)
   | (with_reducible exact scholiastref13_Folders.mono _ _)
   | (with_reducible exact scholiastref13_has.mono _ _ _)
   | (with_reducible exact rf_imports.mono _ _ _ _)
   | (with_reducible exact rf_right.mono _ _ _)
   | (with_reducible exact LeO.refl _)
   | (with_reducible exact LeO.none _)
   | (with_reducible refine LeO.ite ?_ ?_)
   | (with_reducible refine LeO.bind ?_ (fun _ => ?_))
   | exact ih0 _ _ _ _
   | exact ih1 _ _ _ _ _ _
   | exact ih2 _ _ _ _ _ _ _
   | exact ih3 _ _ _ _ _ _ _ _ _
   | exact ih4 _ _ _ _
   | exact scholiastref13_Folders.mono _ _
   | exact scholiastref13_has.mono _ _ _
   | exact rf_imports.mono _ _ _ _
   | exact rf_right.mono _ _ _
   | exact LeO.none _
   | refine LeO.ite ?_ ?_
   | refine LeO.bind ?_ (fun _ => ?_)
  ·intro y0 y1 y2 y3 y4 y5 y6
   unfold rf_Order.j2
   repeat' first
   | (with_reducible exact ih0 _ _ _ _)
   | (with_reducible exact ih1 _ _ _ _ _ _)
   | (with_reducible exact ih2 _ _ _ _ _ _ _)
   | (with_reducible exact ih3 _ _ _ _ _ _ _ _ _)
   | (with_reducible exact ih4 _ _ _ _)
   | (with_reducible exact scholiastref13_Folders.mono _ _)
   | (with_reducible exact scholiastref13_has.mono _ _ _)
   | (with_reducible exact rf_imports.mono _ _ _ _)
   | (with_reducible exact rf_right.mono _ _ _)
   | (with_reducible exact LeO.refl _)
   | (with_reducible exact LeO.none _)
   | (with_reducible refine LeO.ite ?_ ?_)
   | (with_reducible refine LeO.bind ?_ (fun _ => ?_))
   | exact ih0 _ _ _ _
   | exact ih1 _ _ _ _ _ _
   | exact ih2 _ _ _ _ _ _ _
   | exact ih3 _ _ _ _ _ _ _ _ _
   | exact ih4 _ _ _ _
   | exact scholiastref13_Folders.mono _ _
   | exact scholiastref13_has.mono _ _ _
   | exact rf_imports.mono _ _ _ _
   | exact rf_right.mono _ _ _
   | exact LeO.none _
   | refine LeO.ite ?_ ?_
   | refine LeO.bind ?_ (fun _ => ?_)
  ·intro y0 y1 y2 y3 y4 y5 y6 y7 y8
   unfold rf_Order.l2
   repeat' first
   | (with_reducible exact ih0 _ _ _ _)
   | (with_reducible exact ih1 _ _ _ _ _ _)
   | (with_reducible exact ih2 _ _ _ _ _ _ _)
   | (with_reducible exact ih3 _ _ _ _ _ _ _ _ _)
   | (with_reducible exact ih4 _ _ _ _)
   | (with_reducible exact scholiastref13_Folders.mono _ _)
   | (with_reducible exact scholiastref13_has.mono _ _ _)
   | (with_reducible exact rf_imports.mono _ _ _ _)
   | (with_reducible exact rf_right.mono _ _ _)
   | (with_reducible exact LeO.refl _)
   | (with_reducible exact LeO.none _)
   | (with_reducible refine LeO.ite ?_ ?_)
   | (with_reducible refine LeO.bind ?_ (fun _ => ?_))
   | exact ih0 _ _ _ _
   | exact ih1 _ _ _ _ _ _
   | exact ih2 _ _ _ _ _ _ _
   | exact ih3 _ _ _ _ _ _ _ _ _
   | exact ih4 _ _ _ _
   | exact scholiastref13_Folders.mono _ _
   | exact scholiastref13_has.mono _ _ _
   | exact rf_imports.mono _ _ _ _
   | exact rf_right.mono _ _ _
   | exact LeO.none _
   | refine LeO.ite ?_ ?_
   | refine LeO.bind ?_ (fun _ => ?_)
  ·intro y0 y1 y2 y3
   unfold rf_Order.l3
   repeat' first
   | (with_reducible exact ih0 _ _ _ _)
   | (with_reducible exact ih1 _ _ _ _ _ _)
   | (with_reducible exact ih2 _ _ _ _ _ _ _)
   | (with_reducible exact ih3 _ _ _ _ _ _ _ _ _)
   | (with_reducible exact ih4 _ _ _ _)
   | (with_reducible exact scholiastref13_Folders.mono _ _)
   | (with_reducible exact scholiastref13_has.mono _ _ _)
   | (with_reducible exact rf_imports.mono _ _ _ _)
   | (with_reducible exact rf_right.mono _ _ _)
   | (with_reducible exact LeO.refl _)
   | (with_reducible exact LeO.none _)
   | (with_reducible refine LeO.ite ?_ ?_)
   | (with_reducible refine LeO.bind ?_ (fun _ => ?_))
   | exact ih0 _ _ _ _
   | exact ih1 _ _ _ _ _ _
   | exact ih2 _ _ _ _ _ _ _
   | exact ih3 _ _ _ _ _ _ _ _ _
   | exact ih4 _ _ _ _
   | exact scholiastref13_Folders.mono _ _
   | exact scholiastref13_has.mono _ _ _
   | exact rf_imports.mono _ _ _ _
   | exact rf_right.mono _ _ _
   | exact LeO.none _
   | refine LeO.ite ?_ ?_
   | refine LeO.bind ?_ (fun _ => ?_)
theorem rf_Order.mono : ∀ a0 a1 k, LeO (rf_Order.f k a0 a1) (rf_Order.f (k + 1) a0 a1) := by
 intro a0 a1 k
 obtain ⟨ih0, ih1, ih2, ih3, ih4⟩ := rf_Order.mono_l k
 unfold rf_Order.f
 repeat' first
   | (with_reducible exact ih0 _ _ _ _)
   | (with_reducible exact ih1 _ _ _ _ _ _)
   | (with_reducible exact ih2 _ _ _ _ _ _ _)
   | (with_reducible exact ih3 _ _ _ _ _ _ _ _ _)
   | (with_reducible exact ih4 _ _ _ _)
   | (with_reducible exact scholiastref13_Folders.mono _ _)
   | (with_reducible exact scholiastref13_has.mono _ _ _)
   | (with_reducible exact rf_imports.mono _ _ _ _)
   | (with_reducible exact rf_right.mono _ _ _)
   | (with_reducible exact LeO.refl _)
   | (with_reducible exact LeO.none _)
   | (with_reducible refine LeO.ite ?_ ?_)
   | (with_reducible refine LeO.bind ?_ (fun _ => ?_))
   | exact ih0 _ _ _ _
   | exact ih1 _ _ _ _ _ _
   | exact ih2 _ _ _ _ _ _ _
   | exact ih3 _ _ _ _ _ _ _ _ _
   | exact ih4 _ _ _ _
   | exact scholiastref13_Folders.mono _ _
   | exact scholiastref13_has.mono _ _ _
   | exact rf_imports.mono _ _ _ _
   | exact rf_right.mono _ _ _
   | exact LeO.none _
   | refine LeO.ite ?_ ?_
   | refine LeO.bind ?_ (fun _ => ?_)
set_option maxHeartbeats 8000000 in
set_option maxRecDepth 100000 in
theorem rf_Order.calls (k : Nat) (A0 : Option Addr) (c0 : Nat) (l0 : List ByteArray) (A1 : Option Addr) (c1 : Nat) (l1 : List (S46)) (r1 : List ByteArray) (r2 : List ByteArray) (r3 : Int) (w : World) (hr0 : Kd.C Kd.string w A0 l0.length l0) (hc0 : l0.length ≤ c0) (hr1 : Kd.C k46 w A1 l1.length l1) (hc1 : l1.length ≤ c1) (h : rf_Order.f k l0 l1 = some (r1, r2, r3)) :
  Calls Tryd.prog 15 #[.slice A0 l0.length c0, .slice A1 l1.length c1] w fun e w' => ∃ v0_ v1_ : Value, e = .returned (.tuple #[v0_, v1_, .int .i64 r3]) ∧ Kd.R Kd.string 9 w' w.heap.size (fun k_ => some k_ ≠ (v1_ : Value).ownBlock) v0_ r1 ∧ Kd.R Kd.string 9 w' w.heap.size (fun k_ => some k_ ≠ (v0_ : Value).ownBlock) v1_ r2 ∧ Below w.heap.size w w' := by
 have HR0 := Aside0.mk hr0
 have HC0 := Aside0.mk hc0
 clear hr0 hc0
 have HR1 := Aside0.mk hr1
 have HC1 := Aside0.mk hc1
 clear hr1 hc1
 have HB := Aside0.mk (Below.refl w.heap.size w)
 have H : ((rf_right.f k l0 l1).bind fun t219 => (if t219 = 0 then ((scholiastref13_Folders.f k l0).bind fun t220 => (rf_Order.l0 k l0 l1 t220 (([] : List ByteArray)))) else (some (([] : List ByteArray), ([] : List ByteArray), t219)))) = some (r1, r2, r3) := h
 clear h
 replace H := Option.bind_eq_some_iff.mp H
 obtain ⟨t219, A30, H⟩ := H
 replace H : (if t219 = 0 then ((scholiastref13_Folders.f k l0).bind fun t220 => (rf_Order.l0 k l0 l1 t220 (([] : List ByteArray)))) else (some (([] : List ByteArray), ([] : List ByteArray), t219))) = some (r1, r2, r3) := H
 have A3 := Aside0.mk A30
 clear A30
 by_cases c4 : t219 = 0
 ·rw [if_pos c4] at H
  have c4b0 : (t219 == 0) = true := beq_iff_eq.mpr c4
  have c4b1 : (t219 != 0) = false := bne_eq_false_iff_eq.mpr c4
  clear c4
  replace H := Option.bind_eq_some_iff.mp H
  obtain ⟨t220, A50, H⟩ := H
  replace H : (rf_Order.l0 k l0 l1 t220 (([] : List ByteArray))) = some (r1, r2, r3) := H
  have A5 := Aside0.mk A50
  clear A50
  obtain ⟨y223, hy223⟩ : ∃ y_ : List ByteArray, y_ = (([] : List ByteArray)) := ⟨_, rfl⟩
  replace H : (rf_Order.l0 k l0 l1 t220 y223) = some (r1, r2, r3) := by first | (rw [hy223]; with_reducible exact H) | (have H2_ := (Option.bind_some _ _).symm.trans H; rw [hy223]; with_reducible exact H2_) | (have H2_ := (Option.bind_some _ _).symm.trans H; with_reducible exact H2_) | with_reducible exact H | (rw [hy223]; exact H) | exact H
  have Ny223 := Aside0.mk hy223
  clear hy223
  have H' := Aside0.mk H
  clear H
  go_enter Tryd.func15, Tryd.ntmps15
  go_wp2_with (first | ((with_reducible refine gate_callee (f := 32) rfl ?_); refine goesL_ (some 19) rfl rfl Tryd.func32 (by kernel_rfl) rfl #[.slice A0 l0.length c0, .slice A1 l1.length c1] rfl (by (try simp only [List.map_toArray, List.map_cons, List.map_nil]); first | done | rfl | (simp only [List.length_drop, List.length_take]; rfl)) ?_; (with_reducible refine (rf_right.calls k _ _ l0 _ _ l1 t219 _ ?side1 ?side2 ?side3 ?side4 A3.out).mono ?_); (case side1 => repeat (first | exact HR0.out | (with_reducible refine Kd.C_alloc ?_ _) | (with_reducible refine Kd.C_drewN ?_ _) | (with_reducible refine Kd.C_drew ?_))); (case side2 => exact HC0.out); (case side3 => repeat (first | exact HR1.out | (with_reducible refine Kd.C_alloc ?_ _) | (with_reducible refine Kd.C_drewN ?_ _) | (with_reducible refine Kd.C_drew ?_))); (case side4 => exact HC1.out); rintro e w' ⟨rfl, ⟨nd, rfl⟩⟩; refine ⟨_, rfl, ?_⟩) | ((with_reducible refine gate_callee (f := 12) rfl ?_); refine goesL_ (some 24) rfl rfl Tryd.func12 (by kernel_rfl) rfl #[.slice A0 l0.length c0] rfl (by (try simp only [List.map_toArray, List.map_cons, List.map_nil]); first | done | rfl | (simp only [List.length_drop, List.length_take]; rfl)) ?_; (with_reducible refine (scholiastref13_Folders.calls k _ _ l0 t220 _ ?side1 ?side2 A5.out).mono ?_); (case side1 => repeat (first | exact HR0.out | (with_reducible refine Kd.C_alloc ?_ _) | (with_reducible refine Kd.C_drewN ?_ _) | (with_reducible refine Kd.C_drew ?_))); (case side2 => exact HC0.out); rintro e w6 ⟨v221, rfl, ho0, hb⟩; refine ⟨_, rfl, ?_⟩; have n0_ := Aside0.mk (Kd.V_lower (Kd.V_mono (ok' := fun k_ => True) ho0 (fun k_ hk_ => trivial)) (below_size (by repeat (first | (with_reducible first | exact HB.out | apply below_alloc | apply pw_below_drewN | apply below_drew1) | exact HB.out)))); have n1_ := Aside0.mk (below_step (by repeat (first | (with_reducible first | exact HB.out | apply below_alloc | apply pw_below_drewN | apply below_drew1) | exact HB.out)) hb); clear HB; have HO222 := n0_; have HB := n1_; clear n0_ n1_; (try clear hb); (try clear hb2); (try clear hk); (try clear hi); (try clear ho0)) | ((with_reducible refine gate_dst (N := 25) rfl ?_); refine Kd.R_lit Kd.string _ 9 ?hg (N := 25) ?hd (xs := ([] : List ByteArray)) (inner := []) (ok := fun _ => True) (okp := fun _ => True) ?hr ?hp (fun _ hk => hk) trivial (Below.refl _ _) (Nat.le_refl _) (by simp) ?_; (case hd => rfl); (case hg => rfl); (case hr => first | (go_simp; done) | (go_simp; rfl)); (case hp => exact (Reps.none _ _)); intro v224 w7 ho8 hb hg_ hnew_; clear hg_ hnew_; (first | rw [← Ny223.out] at ho8 | (simp only [Int.reduceToNat] at ho8; rw [← Ny223.out] at ho8)); have n0_ := Aside0.mk (Kd.V_elder' (by (with_reducible repeat (first | apply Kd.V_alloc | apply Kd.V_drewN | apply Kd.V_drew)); exact HO222.out) (Kd.R_base ho8) hb); have n1_ := Aside0.mk (Kd.R_lower ho8 (below_size (by repeat (first | (with_reducible first | exact HB.out | apply below_alloc | apply pw_below_drewN | apply below_drew1) | exact HB.out)))); have n2_ := Aside0.mk (below_step (by repeat (first | (with_reducible first | exact HB.out | apply below_alloc | apply pw_below_drewN | apply below_drew1) | exact HB.out)) hb); clear HO222; clear HB; have HO222 := n0_; have HO225 := n1_; have HB := n2_; clear n0_ n1_ n2_; clear hb ho8))
  go_loopg [9] k (fun kq v9 w' => ∃ (x9_1 : List ByteArray), Aside0 (rf_Order.l0 kq l0 l1 t220 x9_1 = some (r1, r2, r3)) ∧ Aside0 (kq ≤ k) ∧ Aside0 (Kd.V Kd.string 9 w' w.heap.size (fun k_ => some k_ ≠ (v9 : Value).ownBlock) v221 t220) ∧ Aside0 (Kd.R Kd.string 9 w' w.heap.size (fun _ => True) v9 x9_1) ∧ Aside0 (Below w.heap.size w w'))
  case atStart => exact ⟨(y223), H', ⟨Nat.le_refl _⟩, ⟨by (with_reducible repeat (first | apply Kd.V_alloc | apply Kd.V_drewN | apply Kd.V_drew)); exact Kd.V_mono HO222.out (fun _ hk => hk.2)⟩, ⟨by (with_reducible repeat (first | apply Kd.R_alloc | apply Kd.R_drewN | apply Kd.R_drew)); exact HO225.out⟩, ⟨by repeat (first | (with_reducible first | exact HB.out | apply below_alloc | apply pw_below_drewN | apply below_drew1) | exact HB.out)⟩⟩
  case round =>
   clear H'
   try clear c1
   try clear p2
   try clear c3
   try clear c4
   try clear c4b0
   try clear c4b1
   obtain ⟨x9_1, HA, HK1, HO_8, HO_9, HB⟩ := hrel
   cases gk with
   | zero => exact absurd HA.out (by simp [rf_Order.l0])
   | succ k1 =>
    have H := HA.out
    clear HA
    simp only [rf_Order.l0] at H
    have H' := Aside0.mk H
    clear H
    go_wp2
    go_loopg [10, 11] k1 (fun kq v10 v11 w' => ∃ (x10_2 : ByteArray) (x11_2 : Int), v10 = .string x10_2 ∧ v11 = .int .i64 x11_2 ∧ Aside0 (rf_Order.l1 kq l0 l1 t220 x9_1 x10_2 x11_2 = some (r1, r2, r3)) ∧ Aside0 (kq ≤ k1) ∧ Aside0 (Kd.V Kd.string 9 w' w.heap.size (fun k_ => some k_ ≠ (u9 : Value).ownBlock) v221 t220) ∧ Aside0 (Kd.R Kd.string 9 w' w.heap.size (fun _ => True) u9 x9_1) ∧ Aside0 (Below w.heap.size w w'))
    case atStart => exact ⟨((⟨#[]⟩ : ByteArray)), (0), (by first | rfl | (simp; done) | (simp [*]; done)), (by first | rfl | (simp; done) | (simp [*]; done)), H', ⟨Nat.le_refl _⟩, ⟨by (with_reducible repeat (first | apply Kd.V_alloc | apply Kd.V_drewN | apply Kd.V_drew)); exact HO_8.out⟩, ⟨by (with_reducible repeat (first | apply Kd.R_alloc | apply Kd.R_drewN | apply Kd.R_drew)); exact HO_9.out⟩, ⟨by repeat (first | (with_reducible first | exact HB.out | apply below_alloc | apply pw_below_drewN | apply below_drew1) | exact HB.out)⟩⟩
    case round =>
     clear H'
     try clear c1
     try clear p2
     try clear c3
     try clear c4
     try clear c4b0
     try clear c4b1
     try clear p2
     obtain ⟨x10_2, x11_2, rfl, rfl, HA, HK2, HO_8, HO_9, HB⟩ := hrel
     cases gk with
     | zero => exact absurd HA.out (by simp [rf_Order.l1])
     | succ k2 =>
      have H := HA.out
      clear HA
      simp only [rf_Order.l1] at H
      have HC9 := Aside0.mk H
      clear H
      go_upto_region 8 with (fail)
      go_cut [33] (fun v33 wc => ∃ (kq : Nat) (x33_8 : Bool), v33 = .bool x33_8 ∧ Aside0 (rf_Order.j2 kq l0 l1 t220 x9_1 x10_2 x11_2 x33_8 = some (r1, r2, r3)) ∧ Aside0 (kq ≤ k2) ∧ Aside0 (Kd.V Kd.string 9 wc w.heap.size (fun k_ => some k_ ≠ (u9 : Value).ownBlock) v221 t220) ∧ Aside0 (Kd.R Kd.string 9 wc w.heap.size (fun _ => True) u9 x9_1) ∧ Aside0 (Below w.heap.size w wc))
      case first =>
       have H := HC9.out
       clear HC9
       by_cases c10 : x11_2 < (t220.length : Int)
       ·rw [if_pos c10] at H
        have c10b0 : decide (x11_2 < (t220.length : Int)) = true := decide_eq_true c10
        clear c10
        (first | rw [c10b0] | (simp only [i64_w, i32_w]; rw [c10b0]) | rw [c10b1] | skip)
        have H' := Aside0.mk H
        clear H
        obtain ⟨Ao11, co11, eo11⟩ := Kd.V_slice HO_8.out
        subst eo11
        go_wp2
        go_meet
        case rel => exact ⟨_, ((x10_2.toList == ([] : List UInt8))), (by first | rfl | (simp; done) | (simp [*]; done)), H', ⟨by have := HK1.out; have := HK2.out; first | omega | exact Nat.le_refl _⟩, ⟨by (with_reducible repeat (first | apply Kd.V_alloc | apply Kd.V_drewN | apply Kd.V_drew)); exact HO_8.out⟩, ⟨by (with_reducible repeat (first | apply Kd.R_alloc | apply Kd.R_drewN | apply Kd.R_drew)); exact HO_9.out⟩, ⟨by repeat (first | (with_reducible first | exact HB.out | apply below_alloc | apply pw_below_drewN | apply below_drew1) | exact HB.out)⟩⟩
       ·rw [if_neg c10] at H
        have c10b0 : decide (x11_2 < (t220.length : Int)) = false := decide_eq_false c10
        clear c10
        (first | rw [c10b0] | (simp only [i64_w, i32_w]; rw [c10b0]) | rw [c10b1] | skip)
        have H' := Aside0.mk H
        clear H
        obtain ⟨Ao12, co12, eo12⟩ := Kd.V_slice HO_8.out
        subst eo12
        go_wp2
        go_meet
        case rel => exact ⟨_, (false), (by first | rfl | (simp; done) | (simp [*]; done)), H', ⟨by have := HK1.out; have := HK2.out; first | omega | exact Nat.le_refl _⟩, ⟨by (with_reducible repeat (first | apply Kd.V_alloc | apply Kd.V_drewN | apply Kd.V_drew)); exact HO_8.out⟩, ⟨by (with_reducible repeat (first | apply Kd.R_alloc | apply Kd.R_drewN | apply Kd.R_drew)); exact HO_9.out⟩, ⟨by repeat (first | (with_reducible first | exact HB.out | apply below_alloc | apply pw_below_drewN | apply below_drew1) | exact HB.out)⟩⟩
      case rest =>
       clear HC9
       try clear c1
       try clear p2
       try clear c3
       try clear c4
       try clear c4b0
       try clear c4b1
       try clear c10
       try clear c10b0
       try clear c10b1
       try clear c12
       try clear p2
       obtain ⟨kq, x33_8, rfl, HA, HJ8, HO_8, HO_9, HB⟩ := hcut
       cases kq with
       | zero => exact absurd HA.out (by simp [rf_Order.j2])
       | succ kj8 =>
        have H := HA.out
        clear HA
        simp only [rf_Order.j2] at H
        by_cases c13 : x33_8 = true
        ·subst c13
         have H1 : (if 0 ≤ x11_2 then (if x11_2 < (t220.length : Int) then ((scholiastref13_has.f kj8 x9_1 (rdOf ByteArray.empty t220 x11_2)).bind fun t230 => ((rf_imports.f kj8 l0 l1 (rdOf ByteArray.empty t220 x11_2)).bind fun t232 => (rf_Order.l2 kj8 l0 l1 t220 x9_1 x10_2 x11_2 (!t230) t232 0))) else (none)) else (none)) = some (r1, r2, r3) := by rw [if_pos rfl] at H; exact H
         clear H
         have H := H1
         clear H1
         by_cases c14 : 0 ≤ x11_2
         ·rw [if_pos c14] at H
          have c14b0 : decide (0 ≤ x11_2) = true := decide_eq_true c14
          clear c14
          by_cases c15 : x11_2 < (t220.length : Int)
          ·rw [if_pos c15] at H
           have c15b0 : decide (x11_2 < (t220.length : Int)) = true := decide_eq_true c15
           clear c15
           replace H := Option.bind_eq_some_iff.mp H
           obtain ⟨t230, A160, H⟩ := H
           replace H : ((rf_imports.f kj8 l0 l1 (rdOf ByteArray.empty t220 x11_2)).bind fun t232 => (rf_Order.l2 kj8 l0 l1 t220 x9_1 x10_2 x11_2 (!t230) t232 0)) = some (r1, r2, r3) := H
           have A16 := Aside0.mk A160
           clear A160
           replace H := Option.bind_eq_some_iff.mp H
           obtain ⟨t232, A170, H⟩ := H
           replace H : (rf_Order.l2 kj8 l0 l1 t220 x9_1 x10_2 x11_2 (!t230) t232 0) = some (r1, r2, r3) := H
           have A17 := Aside0.mk A170
           clear A170
           have H' := Aside0.mk H
           clear H
           obtain ⟨Ao18, co18, eo18⟩ := Kd.V_slice HO_8.out
           subst eo18
           have p229 : 0 ≤ (x11_2 : Int) := of_decide_eq_true (by first | (with_reducible assumption) | assumption)
           have q229 : x11_2 < (t220.length : Int) := of_decide_eq_true (by first | (with_reducible assumption) | assumption)
           obtain ⟨ad229, e229, hx229_0⟩ := Kd.at_string (Kd.V_reads' HO_8.out).2.2 x11_2 p229 q229
           cases e229
           replace p229 := eq_true p229
           replace q229 := eq_true q229
           obtain ⟨Ao19, co19, eo19⟩ := Kd.R_slice HO_9.out
           subst eo19
           go_wp2_with (first | ((with_reducible refine gate_callee (f := 33) rfl ?_); refine goesL_ (some 41) rfl rfl Tryd.func33 (by kernel_rfl) rfl #[.slice Ao19 x9_1.length co19, .string (rdOf ByteArray.empty t220 x11_2)] rfl (by (try simp only [List.map_toArray, List.map_cons, List.map_nil]); first | done | rfl | (simp only [List.length_drop, List.length_take]; rfl)) ?_; (with_reducible refine (scholiastref13_has.calls kj8 _ _ x9_1 (rdOf ByteArray.empty t220 x11_2) t230 _ ?side1 ?side2 A16.out).mono ?_); (case side1 => repeat (first | exact (Kd.R_reads' HO_9.out).2.2 | (with_reducible refine Kd.C_alloc ?_ _) | (with_reducible refine Kd.C_drewN ?_ _) | (with_reducible refine Kd.C_drew ?_))); (case side2 => exact (Kd.R_reads' HO_9.out).2.1); rintro e w' ⟨rfl, ⟨nd, rfl⟩⟩; refine ⟨_, rfl, ?_⟩; have p231 : 0 ≤ (x11_2 : Int) := of_decide_eq_true (by first | (with_reducible assumption) | assumption); have q231 : x11_2 < (t220.length : Int) := of_decide_eq_true (by first | (with_reducible assumption) | assumption); obtain ⟨ad231, e231, hx231_0⟩ := Kd.at_string (Kd.V_reads' HO_8.out).2.2 x11_2 p231 q231; obtain rfl : ad229 = ad231 := (by injection e231); replace p231 := eq_true p231; replace q231 := eq_true q231) | ((with_reducible refine gate_callee (f := 34) rfl ?_); refine goesL_ (some 49) rfl rfl Tryd.func34 (by kernel_rfl) rfl #[.slice A0 l0.length c0, .slice A1 l1.length c1, .string (rdOf ByteArray.empty t220 x11_2)] rfl (by (try simp only [List.map_toArray, List.map_cons, List.map_nil]); first | done | rfl | (simp only [List.length_drop, List.length_take]; rfl)) ?_; (with_reducible refine (rf_imports.calls kj8 _ _ l0 _ _ l1 (rdOf ByteArray.empty t220 x11_2) t232 _ ?side1 ?side2 ?side3 ?side4 A17.out).mono ?_); (case side1 => repeat (first | exact (Kd.C_below HR0.out (by repeat (first | (with_reducible first | exact HB.out | apply below_alloc | apply pw_below_drewN | apply below_drew1) | exact HB.out))) | (with_reducible refine Kd.C_alloc ?_ _) | (with_reducible refine Kd.C_drewN ?_ _) | (with_reducible refine Kd.C_drew ?_))); (case side2 => exact HC0.out); (case side3 => repeat (first | exact (Kd.C_below HR1.out (by repeat (first | (with_reducible first | exact HB.out | apply below_alloc | apply pw_below_drewN | apply below_drew1) | exact HB.out))) | (with_reducible refine Kd.C_alloc ?_ _) | (with_reducible refine Kd.C_drewN ?_ _) | (with_reducible refine Kd.C_drew ?_))); (case side4 => exact HC1.out); rintro e w20 ⟨v233, rfl, ho0, hb⟩; refine ⟨_, rfl, ?_⟩; have n0_ := Aside0.mk (Kd.V_below (by (with_reducible repeat (first | apply Kd.V_alloc | apply Kd.V_drewN | apply Kd.V_drew)); exact HO_8.out) hb); have n1_ := Aside0.mk (Kd.R_below (by (with_reducible repeat (first | apply Kd.R_alloc | apply Kd.R_drewN | apply Kd.R_drew)); exact HO_9.out) hb); have n2_ := Aside0.mk (Kd.V_lower (Kd.V_mono (ok' := fun k_ => some k_ ≠ (.slice Ao19 x9_1.length co19 : Value).ownBlock) ho0 (fun k_ hk_ => (Kd.fresh' (Kd.R_lt (by (with_reducible repeat (first | apply Kd.R_alloc | apply Kd.R_drewN | apply Kd.R_drew)); exact HO_9.out)) k_ hk_))) (below_size (by repeat (first | (with_reducible first | exact HB.out | apply below_alloc | apply pw_below_drewN | apply below_drew1) | exact HB.out)))); have n3_ := Aside0.mk (below_step (by repeat (first | (with_reducible first | exact HB.out | apply below_alloc | apply pw_below_drewN | apply below_drew1) | exact HB.out)) hb); clear HO_8; clear HO_9; clear HB; have HO_8 := n0_; have HO_9 := n1_; have HO234 := n2_; have HB := n3_; clear n0_ n1_ n2_ n3_; (try clear hb); (try clear hb2); (try clear hk); (try clear hi); (try clear ho0)))
           go_loopg [12, 14] kj8 (fun kq v12 v14 w' => ∃ (x12_4 : Bool) (x14_4 : Int), v12 = .bool x12_4 ∧ v14 = .int .i64 x14_4 ∧ Aside0 (rf_Order.l2 kq l0 l1 t220 x9_1 x10_2 x11_2 x12_4 t232 x14_4 = some (r1, r2, r3)) ∧ Aside0 (kq ≤ kj8) ∧ Aside0 (Kd.V Kd.string 9 w' w.heap.size (fun k_ => some k_ ≠ ((.slice Ao19 x9_1.length co19) : Value).ownBlock) (.slice (some ad229) t220.length co18) t220) ∧ Aside0 (Kd.R Kd.string 9 w' w.heap.size (fun _ => True) (.slice Ao19 x9_1.length co19) x9_1) ∧ Aside0 (Kd.V Kd.string 9 w' w.heap.size (fun k_ => some k_ ≠ ((.slice Ao19 x9_1.length co19) : Value).ownBlock) v233 t232) ∧ Aside0 (Below w.heap.size w w'))
           case atStart => exact ⟨(!t230), (0), (by first | rfl | (simp; done) | (simp [*]; done)), (by first | rfl | (simp; done) | (simp [*]; done)), H', ⟨Nat.le_refl _⟩, ⟨by (with_reducible repeat (first | apply Kd.V_alloc | apply Kd.V_drewN | apply Kd.V_drew)); exact HO_8.out⟩, ⟨by (with_reducible repeat (first | apply Kd.R_alloc | apply Kd.R_drewN | apply Kd.R_drew)); exact HO_9.out⟩, ⟨by (with_reducible repeat (first | apply Kd.V_alloc | apply Kd.V_drewN | apply Kd.V_drew)); exact HO234.out⟩, ⟨by repeat (first | (with_reducible first | exact HB.out | apply below_alloc | apply pw_below_drewN | apply below_drew1) | exact HB.out)⟩⟩
           case round =>
            clear H'
            try clear c1
            try clear p2
            try clear q2
            try clear hx2
            try clear c3
            try clear c4
            try clear c4b0
            try clear c4b1
            try clear c10
            try clear c10b0
            try clear c10b1
            try clear c12
            try clear c13
            try clear c14
            try clear c14b0
            try clear c15
            try clear c15b0
            try clear hx229_0
            try clear hx231_0
            try clear p2
            try clear p229
            try clear p231
            try clear q229
            try clear q231
            obtain ⟨x12_4, x14_4, rfl, rfl, HA, HK4, HO_8, HO_9, HO_13, HB⟩ := hrel
            cases gk with
            | zero => exact absurd HA.out (by simp [rf_Order.l2])
            | succ k4 =>
             have H := HA.out
             clear HA
             simp only [rf_Order.l2] at H
             by_cases c21 : x14_4 < (t232.length : Int)
             ·rw [if_pos c21] at H
              have c21b0 : decide (x14_4 < (t232.length : Int)) = true := decide_eq_true c21
              clear c21
              by_cases c22 : x12_4 = true
              ·subst c22
               have H1 : (if 0 ≤ x14_4 then ((scholiastref13_has.f k4 x9_1 (rdOf ByteArray.empty t232 x14_4)).bind fun t236 => (rf_Order.l2 k4 l0 l1 t220 x9_1 x10_2 x11_2 t236 t232 (wrap64 (x14_4 + 1)))) else (none)) = some (r1, r2, r3) := by rw [if_pos rfl] at H; exact H
               clear H
               have H := H1
               clear H1
               by_cases c23 : 0 ≤ x14_4
               ·rw [if_pos c23] at H
                have c23b0 : decide (0 ≤ x14_4) = true := decide_eq_true c23
                clear c23
                replace H := Option.bind_eq_some_iff.mp H
                obtain ⟨t236, A240, H⟩ := H
                replace H : (rf_Order.l2 k4 l0 l1 t220 x9_1 x10_2 x11_2 t236 t232 (wrap64 (x14_4 + 1))) = some (r1, r2, r3) := H
                have A24 := Aside0.mk A240
                clear A240
                have H' := Aside0.mk H
                clear H
                obtain ⟨Ao25, co25, eo25⟩ := Kd.V_slice HO_13.out
                subst eo25
                have p235 : 0 ≤ (x14_4 : Int) := of_decide_eq_true (by first | (with_reducible assumption) | assumption)
                have q235 : x14_4 < (t232.length : Int) := of_decide_eq_true (by first | (with_reducible assumption) | assumption)
                obtain ⟨ad235, e235, hx235_0⟩ := Kd.at_string (Kd.V_reads' HO_13.out).2.2 x14_4 p235 q235
                cases e235
                replace p235 := eq_true p235
                replace q235 := eq_true q235
                go_wp2_with (first | (go_at_call 33; (with_reducible refine (scholiastref13_has.calls k4 _ _ x9_1 (rdOf ByteArray.empty t232 x14_4) t236 _ ?side1 ?side2 A24.out).mono ?_); (case side1 => repeat (first | exact (Kd.R_reads' HO_9.out).2.2 | (with_reducible refine Kd.C_alloc ?_ _) | (with_reducible refine Kd.C_drewN ?_ _) | (with_reducible refine Kd.C_drew ?_))); (case side2 => exact (Kd.R_reads' HO_9.out).2.1); rintro e w' ⟨rfl, ⟨nd, rfl⟩⟩))
                go_roundg k4
                case measure => have := HK1.out; have := HK2.out; have := HJ8.out; have := HK4.out; omega
                case rel => exact ⟨(t236), (wrap64 (x14_4 + 1)), (by first | rfl | (simp; done) | (simp [*]; done)), (by first | rfl | (simp; done) | (simp [*]; done)), H', ⟨by have := HK1.out; have := HK2.out; have := HJ8.out; have := HK4.out; omega⟩, ⟨by (with_reducible repeat (first | apply Kd.V_alloc | apply Kd.V_drewN | apply Kd.V_drew)); exact HO_8.out⟩, ⟨by (with_reducible repeat (first | apply Kd.R_alloc | apply Kd.R_drewN | apply Kd.R_drew)); exact HO_9.out⟩, ⟨by (with_reducible repeat (first | apply Kd.V_alloc | apply Kd.V_drewN | apply Kd.V_drew)); exact HO_13.out⟩, ⟨by repeat (first | (with_reducible first | exact HB.out | apply below_alloc | apply pw_below_drewN | apply below_drew1) | exact HB.out)⟩⟩
               ·rw [if_neg c23] at H
                exact absurd H (by simp)
              ·replace c22 := Bool.eq_false_iff.mpr c22
               subst c22
               have H1 : (rf_Order.l2 k4 l0 l1 t220 x9_1 x10_2 x11_2 false t232 (wrap64 (x14_4 + 1))) = some (r1, r2, r3) := by rw [if_neg (show ¬ (false = true) by decide)] at H; exact H
               clear H
               have H := H1
               clear H1
               have H' := Aside0.mk H
               clear H
               obtain ⟨Ao26, co26, eo26⟩ := Kd.V_slice HO_13.out
               subst eo26
               go_wp2
               go_roundg k4
               case measure => have := HK1.out; have := HK2.out; have := HJ8.out; have := HK4.out; omega
               case rel => exact ⟨(false), (wrap64 (x14_4 + 1)), (by first | rfl | (simp; done) | (simp [*]; done)), (by first | rfl | (simp; done) | (simp [*]; done)), H', ⟨by have := HK1.out; have := HK2.out; have := HJ8.out; have := HK4.out; omega⟩, ⟨by (with_reducible repeat (first | apply Kd.V_alloc | apply Kd.V_drewN | apply Kd.V_drew)); exact HO_8.out⟩, ⟨by (with_reducible repeat (first | apply Kd.R_alloc | apply Kd.R_drewN | apply Kd.R_drew)); exact HO_9.out⟩, ⟨by (with_reducible repeat (first | apply Kd.V_alloc | apply Kd.V_drewN | apply Kd.V_drew)); exact HO_13.out⟩, ⟨by repeat (first | (with_reducible first | exact HB.out | apply below_alloc | apply pw_below_drewN | apply below_drew1) | exact HB.out)⟩⟩
             ·rw [if_neg c21] at H
              have c21b0 : decide (x14_4 < (t232.length : Int)) = false := decide_eq_false c21
              clear c21
              by_cases c27 : x12_4 = true
              ·subst c27
               have H1 : (if 0 ≤ x11_2 then (if x11_2 < (t220.length : Int) then (rf_Order.l1 k4 l0 l1 t220 x9_1 (rdOf ByteArray.empty t220 x11_2) (wrap64 (x11_2 + 1))) else (none)) else (none)) = some (r1, r2, r3) := by rw [if_pos rfl] at H; exact H
               clear H
               have H := H1
               clear H1
               by_cases c28 : 0 ≤ x11_2
               ·rw [if_pos c28] at H
                have c28b0 : decide (0 ≤ x11_2) = true := decide_eq_true c28
                clear c28
                by_cases c29 : x11_2 < (t220.length : Int)
                ·rw [if_pos c29] at H
                 have c29b0 : decide (x11_2 < (t220.length : Int)) = true := decide_eq_true c29
                 clear c29
                 have H' := Aside0.mk H
                 clear H
                 obtain ⟨Ao30, co30, eo30⟩ := Kd.V_slice HO_13.out
                 subst eo30
                 have p237 : 0 ≤ (x11_2 : Int) := of_decide_eq_true (by first | (with_reducible assumption) | assumption)
                 have q237 : x11_2 < (t220.length : Int) := of_decide_eq_true (by first | (with_reducible assumption) | assumption)
                 obtain ⟨ad237, e237, hx237_0⟩ := Kd.at_string (Kd.V_reads' HO_8.out).2.2 x11_2 p237 q237
                 obtain rfl : ad229 = ad237 := (by injection e237)
                 replace p237 := eq_true p237
                 replace q237 := eq_true q237
                 go_wp2
                 go_roundg k4
                 case measure => have := HK1.out; have := HK2.out; have := HJ8.out; have := HK4.out; omega
                 case rel => exact ⟨(rdOf ByteArray.empty t220 x11_2), (wrap64 (x11_2 + 1)), (by first | rfl | (simp; done) | (simp [*]; done)), (by first | rfl | (simp; done) | (simp [*]; done)), H', ⟨by have := HK1.out; have := HK2.out; have := HJ8.out; have := HK4.out; omega⟩, ⟨by (with_reducible repeat (first | apply Kd.V_alloc | apply Kd.V_drewN | apply Kd.V_drew)); exact HO_8.out⟩, ⟨by (with_reducible repeat (first | apply Kd.R_alloc | apply Kd.R_drewN | apply Kd.R_drew)); exact HO_9.out⟩, ⟨by repeat (first | (with_reducible first | exact HB.out | apply below_alloc | apply pw_below_drewN | apply below_drew1) | exact HB.out)⟩⟩
                ·rw [if_neg c29] at H
                 exact absurd H (by simp)
               ·rw [if_neg c28] at H
                exact absurd H (by simp)
              ·replace c27 := Bool.eq_false_iff.mpr c27
               subst c27
               have H1 : (rf_Order.l1 k4 l0 l1 t220 x9_1 x10_2 (wrap64 (x11_2 + 1))) = some (r1, r2, r3) := by rw [if_neg (show ¬ (false = true) by decide)] at H; exact H
               clear H
               have H := H1
               clear H1
               have H' := Aside0.mk H
               clear H
               obtain ⟨Ao31, co31, eo31⟩ := Kd.V_slice HO_13.out
               subst eo31
               go_wp2
               go_roundg k4
               case measure => have := HK1.out; have := HK2.out; have := HJ8.out; have := HK4.out; omega
               case rel => exact ⟨(x10_2), (wrap64 (x11_2 + 1)), (by first | rfl | (simp; done) | (simp [*]; done)), (by first | rfl | (simp; done) | (simp [*]; done)), H', ⟨by have := HK1.out; have := HK2.out; have := HJ8.out; have := HK4.out; omega⟩, ⟨by (with_reducible repeat (first | apply Kd.V_alloc | apply Kd.V_drewN | apply Kd.V_drew)); exact HO_8.out⟩, ⟨by (with_reducible repeat (first | apply Kd.R_alloc | apply Kd.R_drewN | apply Kd.R_drew)); exact HO_9.out⟩, ⟨by repeat (first | (with_reducible first | exact HB.out | apply below_alloc | apply pw_below_drewN | apply below_drew1) | exact HB.out)⟩⟩
          ·rw [if_neg c15] at H
           exact absurd H (by simp)
         ·rw [if_neg c14] at H
          exact absurd H (by simp)
        ·replace c13 := Bool.eq_false_iff.mpr c13
         subst c13
         have H1 : (if x10_2.toList = ([] : List UInt8) then (rf_Order.l3 kj8 t220 x9_1 (([] : List ByteArray)) 0) else (if x9_1.length < 8796093022208 then (rf_Order.l0 kj8 l0 l1 t220 (x9_1 ++ [x10_2])) else (none))) = some (r1, r2, r3) := by rw [if_neg (show ¬ (false = true) by decide)] at H; exact H
         clear H
         have H := H1
         clear H1
         by_cases c32 : x10_2.toList = ([] : List UInt8)
         ·rw [if_pos c32] at H
          have c32b0 : (x10_2.toList == ([] : List UInt8)) = true := beq_iff_eq.mpr c32
          have c32b1 : (x10_2.toList != ([] : List UInt8)) = false := bne_eq_false_iff_eq.mpr c32
          clear c32
          obtain ⟨y238, hy238⟩ : ∃ y_ : List ByteArray, y_ = (([] : List ByteArray)) := ⟨_, rfl⟩
          replace H : (rf_Order.l3 kj8 t220 x9_1 y238 0) = some (r1, r2, r3) := by first | (rw [hy238]; with_reducible exact H) | (have H2_ := (Option.bind_some _ _).symm.trans H; rw [hy238]; with_reducible exact H2_) | (have H2_ := (Option.bind_some _ _).symm.trans H; with_reducible exact H2_) | with_reducible exact H | (rw [hy238]; exact H) | exact H
          have Ny238 := Aside0.mk hy238
          clear hy238
          have H' := Aside0.mk H
          clear H
          go_wp2_with (first | ((with_reducible refine gate_dst (N := 76) rfl ?_); refine Kd.R_lit Kd.string _ 9 ?hg (N := 76) ?hd (xs := ([] : List ByteArray)) (inner := []) (ok := fun _ => True) (okp := fun _ => True) ?hr ?hp (fun _ hk => hk) trivial (Below.refl _ _) (Nat.le_refl _) (by simp) ?_; (case hd => rfl); (case hg => rfl); (case hr => first | (go_simp; done) | (go_simp; rfl)); (case hp => exact (Reps.none _ _)); intro v239 w33 ho34 hb hg_ hnew_; clear hg_ hnew_; (first | rw [← Ny238.out] at ho34 | (simp only [Int.reduceToNat] at ho34; rw [← Ny238.out] at ho34)); have n0_ := Aside0.mk (Kd.V_elder' (by (with_reducible repeat (first | apply Kd.V_alloc | apply Kd.V_drewN | apply Kd.V_drew)); exact HO_8.out) (Kd.R_base ho34) hb); have n1_ := Aside0.mk (Kd.R_elder' (by (with_reducible repeat (first | apply Kd.R_alloc | apply Kd.R_drewN | apply Kd.R_drew)); exact HO_9.out) (Kd.R_base ho34) hb); have n2_ := Aside0.mk (Kd.R_lower (Kd.R_new' ho34 (Kd.R_lt (by (with_reducible repeat (first | apply Kd.R_alloc | apply Kd.R_drewN | apply Kd.R_drew)); exact HO_9.out))) (below_size (by repeat (first | (with_reducible first | exact HB.out | apply below_alloc | apply pw_below_drewN | apply below_drew1) | exact HB.out)))); have n3_ := Aside0.mk (below_step (by repeat (first | (with_reducible first | exact HB.out | apply below_alloc | apply pw_below_drewN | apply below_drew1) | exact HB.out)) hb); clear HO_8; clear HO_9; clear HB; have HO_8 := n0_; have HO_9 := n1_; have HO240 := n2_; have HB := n3_; clear n0_ n1_ n2_ n3_; clear hb ho34))
          go_loopg [15, 16] kj8 (fun kq v15 v16 w' => ∃ (x15_4 : List ByteArray) (x16_4 : Int), v16 = .int .i64 x16_4 ∧ Aside0 (rf_Order.l3 kq t220 x9_1 x15_4 x16_4 = some (r1, r2, r3)) ∧ Aside0 (kq ≤ kj8) ∧ Aside0 (Kd.V Kd.string 9 w' w.heap.size (fun k_ => some k_ ≠ (u9 : Value).ownBlock ∧ some k_ ≠ (v15 : Value).ownBlock) v221 t220) ∧ Aside0 (Kd.R Kd.string 9 w' w.heap.size (fun k_ => some k_ ≠ (v15 : Value).ownBlock) u9 x9_1) ∧ Aside0 (Kd.R Kd.string 9 w' w.heap.size (fun k_ => some k_ ≠ (u9 : Value).ownBlock) v15 x15_4) ∧ Aside0 (Below w.heap.size w w'))
          case atStart => exact ⟨(y238), (0), (by first | rfl | (simp; done) | (simp [*]; done)), H', ⟨Nat.le_refl _⟩, ⟨by (with_reducible repeat (first | apply Kd.V_alloc | apply Kd.V_drewN | apply Kd.V_drew)); exact HO_8.out⟩, ⟨by (with_reducible repeat (first | apply Kd.R_alloc | apply Kd.R_drewN | apply Kd.R_drew)); exact Kd.R_mono HO_9.out (fun _ hk => hk.2)⟩, ⟨by (with_reducible repeat (first | apply Kd.R_alloc | apply Kd.R_drewN | apply Kd.R_drew)); exact Kd.R_mono HO240.out (fun _ hk => hk.2)⟩, ⟨by repeat (first | (with_reducible first | exact HB.out | apply below_alloc | apply pw_below_drewN | apply below_drew1) | exact HB.out)⟩⟩
          case round =>
           clear H'
           try clear c1
           try clear c2
           try clear p2
           try clear q2
           try clear hx2
           try clear c3
           try clear c4
           try clear c4b0
           try clear c4b1
           try clear p6
           try clear c10
           try clear c10b0
           try clear c10b1
           try clear c12
           try clear c13
           try clear c14
           try clear c14b0
           try clear c15
           try clear c15b0
           try clear c21
           try clear c21b0
           try clear c22
           try clear p22
           try clear q22
           try clear hx22
           try clear c23
           try clear c23b0
           try clear p23
           try clear q23
           try clear hx23
           try clear c27
           try clear c28
           try clear c28b0
           try clear c29
           try clear c29b0
           try clear c32
           try clear c32b0
           try clear c32b1
           try clear c33
           try clear c34
           try clear hx229_0
           try clear hx231_0
           try clear hx235_0
           try clear hx237_0
           try clear p2
           try clear p229
           try clear p231
           try clear p235
           try clear p237
           try clear q2
           try clear q229
           try clear q231
           try clear q235
           try clear q237
           obtain ⟨x15_4, x16_4, rfl, HA, HK4, HO_8, HO_9, HO_15, HB⟩ := hrel
           cases gk with
           | zero => exact absurd HA.out (by simp [rf_Order.l3])
           | succ k4 =>
            have H := HA.out
            clear HA
            simp only [rf_Order.l3] at H
            by_cases c35 : x16_4 < (t220.length : Int)
            ·rw [if_pos c35] at H
             have c35b0 : decide (x16_4 < (t220.length : Int)) = true := decide_eq_true c35
             clear c35
             by_cases c36 : 0 ≤ x16_4
             ·rw [if_pos c36] at H
              have c36b0 : decide (0 ≤ x16_4) = true := decide_eq_true c36
              clear c36
              replace H := Option.bind_eq_some_iff.mp H
              obtain ⟨t242, A370, H⟩ := H
              replace H : (if t242 = true then (rf_Order.l3 k4 t220 x9_1 x15_4 (wrap64 (x16_4 + 1))) else (if x15_4.length < 8796093022208 then (rf_Order.l3 k4 t220 x9_1 (x15_4 ++ [rdOf ByteArray.empty t220 x16_4]) (wrap64 (x16_4 + 1))) else (none))) = some (r1, r2, r3) := H
              have A37 := Aside0.mk A370
              clear A370
              by_cases c38 : t242 = true
              ·subst c38
               have H1 : (rf_Order.l3 k4 t220 x9_1 x15_4 (wrap64 (x16_4 + 1))) = some (r1, r2, r3) := by rw [if_pos rfl] at H; exact H
               clear H
               have H := H1
               clear H1
               have H' := Aside0.mk H
               clear H
               obtain ⟨Ao39, co39, eo39⟩ := Kd.V_slice HO_8.out
               subst eo39
               have p241 : 0 ≤ (x16_4 : Int) := of_decide_eq_true (by first | (with_reducible assumption) | assumption)
               have q241 : x16_4 < (t220.length : Int) := of_decide_eq_true (by first | (with_reducible assumption) | assumption)
               obtain ⟨ad241, e241, hx241_0⟩ := Kd.at_string (Kd.V_reads' HO_8.out).2.2 x16_4 p241 q241
               cases e241
               replace p241 := eq_true p241
               replace q241 := eq_true q241
               obtain ⟨Ao40, co40, eo40⟩ := Kd.R_slice HO_9.out
               subst eo40
               go_wp2_with (first | ((with_reducible refine gate_callee (f := 33) rfl ?_); refine goesL_ (some 88) rfl rfl Tryd.func33 (by kernel_rfl) rfl #[.slice Ao40 x9_1.length co40, .string (rdOf ByteArray.empty t220 x16_4)] rfl (by (try simp only [List.map_toArray, List.map_cons, List.map_nil]); first | done | rfl | (simp only [List.length_drop, List.length_take]; rfl)) ?_; (with_reducible refine (scholiastref13_has.calls k4 _ _ x9_1 (rdOf ByteArray.empty t220 x16_4) true _ ?side1 ?side2 A37.out).mono ?_); (case side1 => repeat (first | exact (Kd.R_reads' HO_9.out).2.2 | (with_reducible refine Kd.C_alloc ?_ _) | (with_reducible refine Kd.C_drewN ?_ _) | (with_reducible refine Kd.C_drew ?_))); (case side2 => exact (Kd.R_reads' HO_9.out).2.1); rintro e w' ⟨rfl, ⟨nd, rfl⟩⟩; refine ⟨_, rfl, ?_⟩))
               go_roundg k4
               case measure => have := HK1.out; have := HK2.out; have := HJ8.out; have := HK4.out; omega
               case rel => exact ⟨(x15_4), (wrap64 (x16_4 + 1)), (by first | rfl | (simp; done) | (simp [*]; done)), H', ⟨by have := HK1.out; have := HK2.out; have := HJ8.out; have := HK4.out; omega⟩, ⟨by (with_reducible repeat (first | apply Kd.V_alloc | apply Kd.V_drewN | apply Kd.V_drew)); exact HO_8.out⟩, ⟨by (with_reducible repeat (first | apply Kd.R_alloc | apply Kd.R_drewN | apply Kd.R_drew)); exact HO_9.out⟩, ⟨by (with_reducible repeat (first | apply Kd.R_alloc | apply Kd.R_drewN | apply Kd.R_drew)); exact HO_15.out⟩, ⟨by repeat (first | (with_reducible first | exact HB.out | apply below_alloc | apply pw_below_drewN | apply below_drew1) | exact HB.out)⟩⟩
              ·replace c38 := Bool.eq_false_iff.mpr c38
               subst c38
               have H1 : (if x15_4.length < 8796093022208 then (rf_Order.l3 k4 t220 x9_1 (x15_4 ++ [rdOf ByteArray.empty t220 x16_4]) (wrap64 (x16_4 + 1))) else (none)) = some (r1, r2, r3) := by rw [if_neg (show ¬ (false = true) by decide)] at H; exact H
               clear H
               have H := H1
               clear H1
               by_cases c41 : x15_4.length < 8796093022208
               ·rw [if_pos c41] at H
                have LMc41 := Aside0.mk c41
                clear c41
                obtain ⟨y244, hy244⟩ : ∃ y_ : List ByteArray, y_ = (x15_4 ++ [rdOf ByteArray.empty t220 x16_4]) := ⟨_, rfl⟩
                replace H : (rf_Order.l3 k4 t220 x9_1 y244 (wrap64 (x16_4 + 1))) = some (r1, r2, r3) := by first | (rw [hy244]; with_reducible exact H) | (have H2_ := (Option.bind_some _ _).symm.trans H; rw [hy244]; with_reducible exact H2_) | (have H2_ := (Option.bind_some _ _).symm.trans H; with_reducible exact H2_) | with_reducible exact H | (rw [hy244]; exact H) | exact H
                have Ny244 := Aside0.mk hy244
                clear hy244
                have H' := Aside0.mk H
                clear H
                obtain ⟨Ao42, co42, eo42⟩ := Kd.V_slice HO_8.out
                subst eo42
                have p241 : 0 ≤ (x16_4 : Int) := of_decide_eq_true (by first | (with_reducible assumption) | assumption)
                have q241 : x16_4 < (t220.length : Int) := of_decide_eq_true (by first | (with_reducible assumption) | assumption)
                obtain ⟨ad241, e241, hx241_0⟩ := Kd.at_string (Kd.V_reads' HO_8.out).2.2 x16_4 p241 q241
                cases e241
                replace p241 := eq_true p241
                replace q241 := eq_true q241
                obtain ⟨Ao43, co43, eo43⟩ := Kd.R_slice HO_9.out
                subst eo43
                go_wp2_with (first | ((with_reducible refine gate_callee (f := 33) rfl ?_); refine goesL_ (some 88) rfl rfl Tryd.func33 (by kernel_rfl) rfl #[.slice Ao43 x9_1.length co43, .string (rdOf ByteArray.empty t220 x16_4)] rfl (by (try simp only [List.map_toArray, List.map_cons, List.map_nil]); first | done | rfl | (simp only [List.length_drop, List.length_take]; rfl)) ?_; (with_reducible refine (scholiastref13_has.calls k4 _ _ x9_1 (rdOf ByteArray.empty t220 x16_4) false _ ?side1 ?side2 A37.out).mono ?_); (case side1 => repeat (first | exact (Kd.R_reads' HO_9.out).2.2 | (with_reducible refine Kd.C_alloc ?_ _) | (with_reducible refine Kd.C_drewN ?_ _) | (with_reducible refine Kd.C_drew ?_))); (case side2 => exact (Kd.R_reads' HO_9.out).2.1); rintro e w' ⟨rfl, ⟨nd, rfl⟩⟩; refine ⟨_, rfl, ?_⟩; have p243 : 0 ≤ (x16_4 : Int) := of_decide_eq_true (by first | (with_reducible assumption) | assumption); have q243 : x16_4 < (t220.length : Int) := of_decide_eq_true (by first | (with_reducible assumption) | assumption); obtain ⟨ad243, e243, hx243_0⟩ := Kd.at_string (Kd.V_reads' HO_8.out).2.2 x16_4 p243 q243; obtain rfl : ad241 = ad243 := (by injection e243); replace p243 := eq_true p243; replace q243 := eq_true q243) | ((with_reducible refine gate_builtin (b := .append) (xs := #[.tmp 90, .tmp 95]) rfl ?_); at_builtin; refine Kd.R_append Kd.string (w0 := w) w.heap.size rfl (.tmp 90) (.tmp 95) 26 9 (.string ⟨#[]⟩) 16 rfl Tryd.underlying26 info9 rfl (by decide) (by omega) u15 x15_4 (rdOf ByteArray.empty t220 x16_4) [.string (rdOf ByteArray.empty t220 x16_4)] (fun k_ => some k_ ≠ (.slice Ao43 x9_1.length co43 : Value).ownBlock) (fun _ => False) rfl rfl ?aP (fun _ hk => hk.elim) ?aF ?aO ?aB ?aS ?aL ?_; (case aP => exact rfl); (case aB => exact (by repeat (first | (with_reducible first | exact HB.out | apply below_alloc | apply pw_below_drewN | apply below_drew1) | exact HB.out))); (case aF => exact (fun k_ hk => Kd.fresh' (Kd.R_lt (by (with_reducible repeat (first | apply Kd.R_alloc | apply Kd.R_drewN | apply Kd.R_drew)); exact HO_9.out)) k_ hk)); (case aO => exact (by (with_reducible repeat (first | apply Kd.R_alloc | apply Kd.R_drewN | apply Kd.R_drew)); exact HO_15.out)); (case aS => exact (below_size (by repeat (first | (with_reducible first | exact HB.out | apply below_alloc | apply pw_below_drewN | apply below_drew1) | exact HB.out)))); (case aL => have := LMc41.out; omega); intro v245 w44 ho hb hg hat; rw [← Ny244.out] at ho; have n0_ := Aside0.mk (Kd.V_afterv (ok := (fun k_ => some k_ ≠ (.slice Ao43 x9_1.length co43 : Value).ownBlock)) (by (with_reducible repeat (first | apply Kd.V_alloc | apply Kd.V_drewN | apply Kd.V_drew)); exact HO_8.out) hg hat); have n1_ := Aside0.mk (Kd.R_after (ok := (fun _ => True)) (by (with_reducible repeat (first | apply Kd.R_alloc | apply Kd.R_drewN | apply Kd.R_drew)); exact Kd.R_mono HO_9.out (fun _ hk => ⟨trivial, hk⟩)) hg hat); have n2_ := Aside0.mk (hb); have n3_ := Aside0.mk (ho); clear HO_8; clear HO_9; clear HB; clear HO_15; have HO_8 := n0_; have HO_9 := n1_; have HB := n2_; have HO246 := n3_; clear n0_ n1_ n2_ n3_; clear ho hb hg hat))
                go_roundg k4
                case measure => have := HK1.out; have := HK2.out; have := HJ8.out; have := HK4.out; omega
                case rel => exact ⟨(y244), (wrap64 (x16_4 + 1)), (by first | rfl | (simp; done) | (simp [*]; done)), H', ⟨by have := HK1.out; have := HK2.out; have := HJ8.out; have := HK4.out; omega⟩, ⟨by (with_reducible repeat (first | apply Kd.V_alloc | apply Kd.V_drewN | apply Kd.V_drew)); exact HO_8.out⟩, ⟨by (with_reducible repeat (first | apply Kd.R_alloc | apply Kd.R_drewN | apply Kd.R_drew)); exact Kd.R_mono HO_9.out (fun _ hk => hk.2)⟩, ⟨by (with_reducible repeat (first | apply Kd.R_alloc | apply Kd.R_drewN | apply Kd.R_drew)); exact HO246.out⟩, ⟨by repeat (first | (with_reducible first | exact HB.out | apply below_alloc | apply pw_below_drewN | apply below_drew1) | exact HB.out)⟩⟩
               ·rw [if_neg c41] at H
                exact absurd H (by simp)
             ·rw [if_neg c36] at H
              exact absurd H (by simp)
            ·rw [if_neg c35] at H
             have c35b0 : decide (x16_4 < (t220.length : Int)) = false := decide_eq_false c35
             clear c35
             simp only [Option.some.injEq, Prod.mk.injEq] at H
             obtain ⟨rfl, rfl, rfl⟩ := H
             obtain ⟨Ao45, co45, eo45⟩ := Kd.V_slice HO_8.out
             subst eo45
             go_wp2
             go_ret3
             exact ⟨_, _, by first | rfl | (simp [errW_none, errW_some] <;> rfl) | (simp [*, errW_none, errW_some] <;> rfl), by (with_reducible repeat (first | apply Kd.R_alloc | apply Kd.R_drewN | apply Kd.R_drew)); exact HO_9.out, by (with_reducible repeat (first | apply Kd.R_alloc | apply Kd.R_drewN | apply Kd.R_drew)); exact HO_15.out, by repeat (first | (with_reducible first | exact HB.out | apply below_alloc | apply pw_below_drewN | apply below_drew1) | exact HB.out)⟩
         ·rw [if_neg c32] at H
          have c32b0 : (x10_2.toList == ([] : List UInt8)) = false := beq_eq_false_iff_ne.mpr c32
          have c32b1 : (x10_2.toList != ([] : List UInt8)) = true := bne_iff_ne.mpr c32
          by_cases c46 : x9_1.length < 8796093022208
          ·rw [if_pos c46] at H
           have LMc46 := Aside0.mk c46
           clear c46
           obtain ⟨y226, hy226⟩ : ∃ y_ : List ByteArray, y_ = (x9_1 ++ [x10_2]) := ⟨_, rfl⟩
           replace H : (rf_Order.l0 kj8 l0 l1 t220 y226) = some (r1, r2, r3) := by first | (rw [hy226]; with_reducible exact H) | (have H2_ := (Option.bind_some _ _).symm.trans H; rw [hy226]; with_reducible exact H2_) | (have H2_ := (Option.bind_some _ _).symm.trans H; with_reducible exact H2_) | with_reducible exact H | (rw [hy226]; exact H) | exact H
           have Ny226 := Aside0.mk hy226
           clear hy226
           have H' := Aside0.mk H
           clear H
           go_wp2_with (first | ((with_reducible refine gate_builtin (b := .append) (xs := #[.tmp 72, .tmp 74]) rfl ?_); at_builtin; refine Kd.R_append Kd.string (w0 := w) w.heap.size rfl (.tmp 72) (.tmp 74) 26 9 (.string ⟨#[]⟩) 16 rfl Tryd.underlying26 info9 rfl (by decide) (by omega) u9 x9_1 x10_2 [.string x10_2] (fun _ => True) (fun _ => False) rfl rfl ?aP (fun _ hk => hk.elim) ?aF ?aO ?aB ?aS ?aL ?_; (case aP => exact rfl); (case aB => exact (by repeat (first | (with_reducible first | exact HB.out | apply below_alloc | apply pw_below_drewN | apply below_drew1) | exact HB.out))); (case aF => exact (fun _ _ => trivial)); (case aO => exact (by (with_reducible repeat (first | apply Kd.R_alloc | apply Kd.R_drewN | apply Kd.R_drew)); exact HO_9.out)); (case aS => exact (below_size (by repeat (first | (with_reducible first | exact HB.out | apply below_alloc | apply pw_below_drewN | apply below_drew1) | exact HB.out)))); (case aL => have := LMc46.out; omega); intro v227 w47 ho hb hg hat; rw [← Ny226.out] at ho; have n0_ := Aside0.mk (Kd.V_afterv (ok := (fun _ => True)) (by (with_reducible repeat (first | apply Kd.V_alloc | apply Kd.V_drewN | apply Kd.V_drew)); exact Kd.V_mono HO_8.out (fun _ hk => ⟨trivial, hk⟩)) hg hat); have n1_ := Aside0.mk (hb); have n2_ := Aside0.mk (ho); clear HO_8; clear HB; clear HO_9; have HO_8 := n0_; have HB := n1_; have HO228 := n2_; clear n0_ n1_ n2_; clear ho hb hg hat))
           go_roundg kj8
           case measure => have := HK1.out; have := HK2.out; have := HJ8.out; omega
           case rel => exact ⟨(y226), H', ⟨by have := HK1.out; have := HK2.out; have := HJ8.out; omega⟩, ⟨by (with_reducible repeat (first | apply Kd.V_alloc | apply Kd.V_drewN | apply Kd.V_drew)); exact Kd.V_mono HO_8.out (fun _ hk => hk.2)⟩, ⟨by (with_reducible repeat (first | apply Kd.R_alloc | apply Kd.R_drewN | apply Kd.R_drew)); exact HO228.out⟩, ⟨by repeat (first | (with_reducible first | exact HB.out | apply below_alloc | apply pw_below_drewN | apply below_drew1) | exact HB.out)⟩⟩
          ·rw [if_neg c46] at H
           exact absurd H (by simp)
 ·rw [if_neg c4] at H
  have c4b0 : (t219 == 0) = false := beq_eq_false_iff_ne.mpr c4
  have c4b1 : (t219 != 0) = true := bne_iff_ne.mpr c4
  simp only [Option.some.injEq, Prod.mk.injEq] at H
  obtain ⟨rfl, rfl, rfl⟩ := H
  go_enter Tryd.func15, Tryd.ntmps15
  go_wp2_with (first | ((with_reducible refine gate_callee (f := 32) rfl ?_); refine goesL_ (some 19) rfl rfl Tryd.func32 (by kernel_rfl) rfl #[.slice A0 l0.length c0, .slice A1 l1.length c1] rfl (by (try simp only [List.map_toArray, List.map_cons, List.map_nil]); first | done | rfl | (simp only [List.length_drop, List.length_take]; rfl)) ?_; (with_reducible refine (rf_right.calls k _ _ l0 _ _ l1 t219 _ ?side1 ?side2 ?side3 ?side4 A3.out).mono ?_); (case side1 => repeat (first | exact HR0.out | (with_reducible refine Kd.C_alloc ?_ _) | (with_reducible refine Kd.C_drewN ?_ _) | (with_reducible refine Kd.C_drew ?_))); (case side2 => exact HC0.out); (case side3 => repeat (first | exact HR1.out | (with_reducible refine Kd.C_alloc ?_ _) | (with_reducible refine Kd.C_drewN ?_ _) | (with_reducible refine Kd.C_drew ?_))); (case side4 => exact HC1.out); rintro e w' ⟨rfl, ⟨nd, rfl⟩⟩; refine ⟨_, rfl, ?_⟩))
  go_ret3
  exact ⟨_, _, by first | rfl | (simp [errW_none, errW_some] <;> rfl) | (simp [*, errW_none, errW_some] <;> rfl), by first | exact Kd.R_nil _ _ _ _ _ | exact Kd.N_nil _ _ _ _ _ | exact Kd.V_nil _ _ _ _ _ | exact Kd.Q_nil _ _ _ _ _ | exact Kd.S_nil _ _ _ _ _, by first | exact Kd.R_nil _ _ _ _ _ | exact Kd.N_nil _ _ _ _ _ | exact Kd.V_nil _ _ _ _ _ | exact Kd.Q_nil _ _ _ _ _ | exact Kd.S_nil _ _ _ _ _, by repeat (first | (with_reducible first | exact HB.out | apply below_alloc | apply pw_below_drewN | apply below_drew1) | exact HB.out)⟩
end Go.Proofs.YtcejdokeaoklaaaDoor.PImp
