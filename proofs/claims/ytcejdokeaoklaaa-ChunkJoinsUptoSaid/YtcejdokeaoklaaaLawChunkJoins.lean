/-
  The row of the law ChunkJoins: the call of the machine is walked (the function's contract), the answer is true by the plain law; every argument reads as it did.
-/
import Derived.Test.YtcejdokeaoklaaaRows
import Derived.Test.YtcejdokeaoklaaaPureChunkJoins
import Derived.Test.YtcejdokeaoklaaaChkBulk
import Derived.Test.YtcejdokeaoklaaaChkOpen
import Derived.WalkKit
import Derived.ProofKit
import Derived.OpenShut
import Derived.ShutString
import Derived.ChangeOld
import Derived.Below
import Derived.SizedLaws
import Derived.JoinedCond
namespace Go.Proofs.Ytcejdokeaoklaaa.chunkJoinsUpto
open Go.ChangeShapes Go.WideShapes Go.ChangeAt Go.RowKit
open Go.ChangeMaps (open_string shut_string)
open Go.Proofs.YtcejdokeaoklaaaW.PrintWords Go.Proofs.Ytcejdokeaoklaaa.PChk

theorem own : ownKnob Try.prog.godebug = none := by kernel_rfl
theorem laidOut : laidOutB Try.prog = true := by kernel_rfl

theorem contract (H : Type) (enc : TypeId × Value → H) (W : World) (base : Nat) (args : Array Value) (ds gs : List (DataW H)) (before : List MemPlace)
    (hval : ∀ (j : Nat) t v, Try.f7.params[j]? = some t → args[j]? = some v → Value.okWide Try.prog W .any base t v)
    (hW : DataW.Whole enc Try.prog Try.f7.params.toList Rows.chunkJoinsSpec.vars false W args.toList ds gs before) (hk0 : Rows.uptoSmall H (ds ++ gs) = true) :
    Calls Try.prog 7 args W fun e W' => ∃ v, e = .returned v ∧ Rows.chunkJoinsSpec.post enc Try.prog Try.f7 false true false false W args v W' := by
  have hW' := hW
  obtain ⟨p, q, hA0, hV, rfl, hfz, hnd⟩ := hW
  have hA : DataW.TrodAll enc Try.prog W 0 (fun _ => true) true Try.f7.params.toList args.toList ds p := hA0
  rw [Try.params7] at hA hval
  obtain ⟨v0, vs0, d0, ds0, p0, q0, hargs, rfl, rfl, h0, r0⟩ := trodAll_cons hA
  obtain ⟨v1, vs1, d1, ds1, p1, q1, rfl, rfl, rfl, h1, r1⟩ := trodAll_cons r0
  obtain ⟨rfl, rfl, rfl⟩ := trodAll_nil r1
  obtain rfl : args = #[v0, v1] := by cases args; simp_all
  obtain ⟨rfl, rfl⟩ := trodVars_none hV
  obtain ⟨a0, len0, cap0, rfl⟩ := okWide_slice Try.underlying22 (hval 0 22 v0 rfl rfl)
  have k0 := h0
  have lt0 : ∀ x ∈ p0, x.block < W.heap.size := by obtain ⟨m, hm⟩ := k0; exact DataW.trod_lt m _ _ _ hm
  obtain ⟨fuel0, hf0⟩ := h0
  obtain ⟨A0, l0, c0, hcs0, hc0, hr0, hg0⟩ := open_list (d := k25) (G := fun (v_ : S25) (d_ : DataW H) => True) Try.underlying22 (by kernel_rfl) (tok_reads (x3 := Try.underlying3) (by kernel_rfl) Try.underlying25 (by kernel_rfl)) hf0
  simp only [Value.cells, List.cons.injEq, Value.slice.injEq, and_true] at hcs0
  obtain ⟨rfl, rfl, rfl⟩ := hcs0
  obtain ⟨a1, len1, cap1, rfl⟩ := okWide_slice Try.underlying22 (hval 1 22 v1 rfl rfl)
  have k1 := h1
  have lt1 : ∀ x ∈ p1, x.block < W.heap.size := by obtain ⟨m, hm⟩ := k1; exact DataW.trod_lt m _ _ _ hm
  obtain ⟨fuel1, hf1⟩ := h1
  obtain ⟨A1, l1, c1, hcs1, hc1, hr1, hg1⟩ := open_list (d := k25) (G := fun (v_ : S25) (d_ : DataW H) => True) Try.underlying22 (by kernel_rfl) (tok_reads (x3 := Try.underlying3) (by kernel_rfl) Try.underlying25 (by kernel_rfl)) hf1
  simp only [Value.cells, List.cons.injEq, Value.slice.injEq, and_true] at hcs1
  obtain ⟨rfl, rfl, rfl⟩ := hcs1
  have hb : Rows.uptoBulkAll _ ≤ 1048576 := of_decide_eq_true hk0
  simp only [List.append_nil, Rows.uptoBulkAll] at hb
  have y0 := list_bulk (G := fun (v_ : S25) (d_ : DataW H) => True) (d := d0) (xs := l0) hg0
  have y1 := list_bulk (G := fun (v_ : S25) (d_ : DataW H) => True) (d := d1) (xs := l1) hg1
  clear hA0 hk0
  obtain ⟨k, hk⟩ := joins_pure l0 l1 (by omega) (by omega)
  refine (scholiastlaw04_ChunkJoins.calls k _ _ l0 _ _ l1 true W hr0 hc0 hr1 hc1 hk).mono fun e W' ⟨he, bel⟩ => ?_
  subst he
  exact ⟨_, rfl, _, _, _, [], _, [], hW', trodAll_mk1 (shut_bool Try.underlying4 _), (trodAll_cons_mk (Below.trod laidOut (by kernel_rfl) (of_decide_eq_true (by kernel_rfl)) k0 bel lt0) (trodAll_cons_mk (Below.trod laidOut (by kernel_rfl) (of_decide_eq_true (by kernel_rfl)) k1 bel lt1) trodAll_mk0)), rfl, bel.frame _, fun h => by cases h⟩

set_option maxRecDepth 100000 in
theorem lifted (os : Os) (started : os.Started) (H : Type) (enc : TypeId × Value → H) (F : Stop.Interp) :
    ReturnsInHanded {} Try.checked os 7 .any ((Rows.OpenSpec.upto Rows.chunkJoinsSpec).pre6 enc Try.prog Try.f7 Rows.chunkJoinsUptoRow.domain false) (((Rows.OpenSpec.upto Rows.chunkJoinsSpec).at F).post enc Try.prog Try.f7 false true false false) := by
  refine returnsInHanded_of_cond (C := Try.checked) (s := (Rows.OpenSpec.upto Rows.chunkJoinsSpec)) (k := Rows.uptoSmall) rfl own started (by kernel_rfl) Try.func7
    (OpenSpec.witness (enc := enc) (C := Try.checked) (s := (Rows.OpenSpec.upto Rows.chunkJoinsSpec)) (k := Rows.uptoSmall) rfl false ⟨#[], #[.slice none 0 0, .slice none 0 0], []⟩ 8 (by kernel_rfl) (by kernel_rfl) (by kernel_rfl)
      (x := ([.nil, .nil], [], [])) (by kernel_rfl) rfl (by kernel_rfl)) ?_
  intro W base args ds gs before hval hW _ hk _
  exact contract H enc W base args ds gs before hval hW hk

theorem proved : Rows.ChunkJoinsUptoSaid :=
  OpenClaim.holds_of_cond 7 Try.f7 rfl rfl rfl rfl rfl rfl rfl ⟨rfl, rfl, rfl, rfl, rfl⟩ rfl rfl rfl rfl rfl (by kernel_rfl) Try.func7 (by kernel_rfl)
    (of_decide_eq_true (by kernel_rfl)) (by unfold Func.isWrapper; first | (rw [if_pos (by decide +kernel)]; kernel_rfl) | (rw [if_neg (by decide +kernel)]; exact ⟨rfl, rfl⟩))
    (fun os started H enc _ F => lifted os started H enc F)
end Go.Proofs.Ytcejdokeaoklaaa.chunkJoinsUpto

namespace Go.Proofs.Ytcejdokeaoklaaa
/-- The row, under a short name, for the claim. -/
theorem chunkJoinsUpto_holds : Rows.ChunkJoinsUptoSaid := chunkJoinsUpto.proved
#print axioms chunkJoinsUpto_holds
end Go.Proofs.Ytcejdokeaoklaaa
