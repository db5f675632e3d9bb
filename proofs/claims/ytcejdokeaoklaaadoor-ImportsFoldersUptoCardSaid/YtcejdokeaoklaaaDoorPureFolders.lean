import Derived.Test.YtcejdokeaoklaaaDoorListEv
import Derived.Test.YtcejdokeaoklaaaDoorPImpx9
/-! PLAIN LAW: ImportsFolders. -/
namespace Go.Proofs.YtcejdokeaoklaaaDoor.PImp
open Go.RowKit Go.Proofs.YtcejdokeaoklaaaDoorW.PrintWords Go.Proofs.YtcejdokeaoklaaaDoorW.PrintLast Go.Proofs.YtcejdokeaoklaaaDoorW.PrintMore
open Go.Proofs.YtcejdokeaoklaaaDoor.Imp
theorem rise_l0 (l : List ByteArray) (hr : Rising ltS l) (hl : l.length < 1048577) : ∀ n j, l.length - j = n → 1 ≤ j → Ev (fun k => scholiastlaw13_ImportsFolders.l0 k l (j : Int)) true := by
  intro n
  induction n with
  | zero =>
    intro j hn hj
    refine Ev.step (fun k => scholiastlaw13_ImportsFolders.l0.eq_2 _ _ k) ?_
    exact ev_neg (by omega) (Ev.now _)
  | succ n ih =>
    intro j hn hj
    have hjl : j < l.length := by omega
    refine Ev.step (fun k => scholiastlaw13_ImportsFolders.l0.eq_2 _ _ k) ?_
    rw [wrap_next hjl (by omega), wrap_id (x := (j : Int) - 1) (by omega) (by omega), show (j : Int) - 1 = ((j - 1 : Nat) : Int) by omega]
    refine ev_pos (by omega) (ev_pos (by omega) (ev_pos (by omega) (ev_pos (by omega) ?_)))
    rw [rdOf_get hjl, rdOf_get (show j - 1 < l.length by omega)]
    have : ltS l[j - 1] l[j] = true := List.pairwise_iff_getElem.1 hr (j - 1) j (by omega) hjl (by omega)
    exact ev_pos this (ih (j + 1) (by omega) (by omega))
theorem ImportsFolders_pure (l : List ByteArray) (hl : l.length < 1048577) (hs : ∀ s ∈ l, s.size < 1048577) : ∃ k, scholiastlaw13_ImportsFolders.f k l = some true := by
  refine Ev.rounds (g := fun k => scholiastlaw13_ImportsFolders.f k l) ?_
  unfold scholiastlaw13_ImportsFolders.f
  by_cases h : (l.length : Int) > 1024
  · exact ev_pos h (Ev.now _)
  · refine ev_neg h ?_
    simp only [Option.bind_some, List.nil_append, List.length_nil, Nat.zero_add]
    refine ev_pos (by omega) (ev_pos (by omega) ?_)
    refine ev_pos (by omega) (ev_pos (by simp only [List.length_append]; omega) ?_)
    simp only [Int.toNat_natCast, List.take_left']
    refine ev_let (b := foldersF l) (by unfold imports_Folders.f; rw [if_pos ⟨hl, hs⟩]) ?_
    have hfl := foldersF_length l
    refine Ev.bind (ref_Folders_ev l hl hs) (Ev.bind (same_ev _ _ (by omega)) ?_)
    refine ev_pos (by simp) (ev_pos (by simp only [List.length_append, List.length_singleton]; omega) ?_)
    have hm : rdOf ByteArray.empty (l ++ [(⟨#[109, 97, 114, 107]⟩ : ByteArray)]) (l.length : Int) = ⟨#[109, 97, 114, 107]⟩ := by
      rw [rdOf_get (by simp)]
      simp
    rw [hm]
    refine ev_pos (by rw [toList_data]) (Ev.bind (same_ev _ _ (by omega)) ?_)
    refine Ev.step (fun k => scholiastlaw13_ImportsFolders.j0.eq_2 _ _ k) ?_
    refine ev_neg (by simp) ?_
    exact rise_l0 _ (foldersF_rising l) (by omega) _ 1 rfl (Nat.le_refl _)
end Go.Proofs.YtcejdokeaoklaaaDoor.PImp
