/-
  ChunkJoins, the plain law: regions of tokens that end with a region's end, and of others behind them, are those of both.
-/
import Derived.Test.YtcejdokeaoklaaaPChkx12
import Derived.Test.YtcejdokeaoklaaaChkThm
namespace Go.Proofs.Ytcejdokeaoklaaa.PChk
open Go.RowKit Go.Proofs.YtcejdokeaoklaaaW.PrintWords Go.Proofs.YtcejdokeaoklaaaW.PrintLast Go.Proofs.YtcejdokeaoklaaaW.PrintMore

/-- Where regions lie: within their tokens. -/
theorem cutFrom_range (l : List S25) : ∀ n o, l.length - o = n → o ≤ l.length → ∀ x ∈ cutFrom l o, 0 ≤ x.f0 ∧ x.f0 < x.f1 ∧ x.f1 ≤ (l.length : Int) := by
  intro n
  induction n using Nat.strongRecOn with
  | _ n ih =>
    intro o hn ho x hx
    rcases cutFrom_cases ho with ⟨h, _⟩ | ⟨e, h1, h2, h3, _⟩
    · rw [h] at hx; cases hx
    · rw [h3, List.mem_cons] at hx
      rcases hx with rfl | hx
      · simp only; omega
      · exact ih (l.length - e) (by omega) e rfl h2 x hx
theorem cutG_range (l : List S25) : ∀ x ∈ cutG l, 0 ≤ x.f0 ∧ x.f0 < x.f1 ∧ x.f1 ≤ (l.length : Int) := by
  rw [← cutFrom_zero]
  exact cutFrom_range l _ 0 rfl (Nat.zero_le _)

theorem joins_l0 (c : Nat) (hc : c ≤ 1048576) (t : List S30) (ht : t.length ≤ 1048576) (hr : ∀ x ∈ t, 0 ≤ x.f0 ∧ x.f0 < x.f1 ∧ x.f1 ≤ 1048576) (both want : List S30) (hb : both.length ≤ 4000000) (he : both = want) : ∀ (n j : Nat) (x9 : List S30), x9.length ≤ 1048576 + j → x9 ++ (t.drop j).map (moved c) = want → t.length - j = n → j ≤ t.length →
    Ev (fun k => scholiastlaw04_ChunkJoins.l0 k (c : Int) both x9 t (t.length : Int) (j : Int)) true := by
  intro n
  induction n with
  | zero =>
    intro j x9 hx hw hn hj
    have e : j = t.length := by omega
    subst e
    rw [List.drop_length, List.map_nil, List.append_nil] at hw
    refine Ev.step (fun k => scholiastlaw04_ChunkJoins.l0.eq_2 _ _ _ _ _ _ k) (ev_neg (by omega) (Ev.bind (spans_ev both x9 (by omega)) ?_))
    rw [show decide (both = x9) = true by simp [he, hw]]
    exact Ev.now _
  | succ n ih =>
    intro j x9 hx hw hn hj
    have hlt : j < t.length := by omega
    refine Ev.step (fun k => scholiastlaw04_ChunkJoins.l0.eq_2 _ _ _ _ _ _ k) (ev_pos (by omega) (ev_pos (by omega) (ev_pos (by omega) (ev_pos (by omega) ?_))))
    obtain ⟨h0, h1, h2⟩ := hr t[j] (List.getElem_mem hlt)
    rw [rd30 hlt, wrap_next hlt (by omega), wrap_small (x := t[j].f0 + (c : Int)) (by omega) (by omega), wrap_small (x := t[j].f1 + (c : Int)) (by omega) (by omega)]
    refine ih (j + 1) _ (by simp; omega) ?_ (by omega) (by omega)
    rw [← hw, List.drop_eq_getElem_cons hlt, List.map_cons, List.append_assoc]
    rfl

theorem joins_pure (a b : List S25) (ha : a.length ≤ 1048576) (hb : b.length ≤ 1048576) : ∃ k, scholiastlaw04_ChunkJoins.f k a b = some true := by
  have hca := cutG_length a
  have hcb := cutG_length b
  have hcab := cutG_length (a ++ b)
  rw [List.length_append] at hcab
  -- behind the tests: the regions of both are those of the first, and those of the second, moved
  have hj1 : cutG (a ++ b) = cutG a ++ (cutG b).map (moved a.length) → Ev (fun k => scholiastlaw04_ChunkJoins.j1 k a b (cutG a) (a.length : Int)) true := fun he => by
    refine Ev.step (fun k => scholiastlaw04_ChunkJoins.j1.eq_2 _ _ _ _ k) (ev_pos (by simp; omega) (ev_let rfl (ev_pos (by simp; omega) ?_)))
    rw [List.nil_append]
    refine ev_let (cut_f (by rw [List.length_append]; omega)) (ev_pos (by simp; omega) (ev_let (cut_f (by omega)) ?_))
    rw [List.nil_append]
    exact joins_l0 a.length ha (cutG b) (by omega) (fun x hx => by have := cutG_range b x hx; omega) (cutG (a ++ b)) _ (by omega) he _ 0 (cutG a) (by omega) rfl rfl (Nat.zero_le _)
  refine Ev.rounds (g := fun k => scholiastlaw04_ChunkJoins.f k a b) ?_
  unfold scholiastlaw04_ChunkJoins.f
  refine Ev.bind shown_ev (ev_pos rfl (ev_let (cut_f (by omega)) ?_))
  by_cases h0 : a = []
  · refine ev_neg (by simp [h0]) (hj1 ?_)
    subst h0
    rw [List.nil_append, show cutG [] = [] from rfl, List.nil_append]
    have : moved (([] : List S25).length : Int) = id := by funext x; simp [moved]
    rw [this, List.map_id]
  · have hl0 : 0 < a.length := List.length_pos_iff.2 h0
    refine ev_pos (by omega) ?_
    have htrue : Ev (fun k => scholiastlaw04_ChunkJoins.j0 k a b (cutG a) (a.length : Int) true) true := Ev.step (fun k => scholiastlaw04_ChunkJoins.j0.eq_2 _ _ _ _ _ k) (ev_pos rfl (Ev.now _))
    by_cases h1 : cutG a = []
    · exact ev_pos (by simp [h1]) htrue
    · have hc0 : 0 < (cutG a).length := List.length_pos_iff.2 h1
      have hw : wrap64 (((cutG a).length : Int) - 1) = (((cutG a).length - 1 : Nat) : Int) := by rw [wrap_small (by omega) (by omega)]; omega
      refine ev_neg (by omega) ?_
      rw [hw]
      refine ev_pos (by omega) (ev_pos (by omega) ?_)
      rw [rd30 (show (cutG a).length - 1 < (cutG a).length by omega)]
      by_cases h2 : (cutG a)[(cutG a).length - 1].f1 = (a.length : Int)
      · rw [show ((cutG a)[(cutG a).length - 1].f1 != (a.length : Int)) = false by simp [h2]]
        refine Ev.step (fun k => scholiastlaw04_ChunkJoins.j0.eq_2 _ _ _ _ _ k) (ev_neg (by simp) (ev_pos (by simp; omega) (ev_let rfl (ev_pos (by simp; omega) ?_))))
        rw [List.nil_append]
        refine ev_let (cut_f (by simp; omega)) ?_
        by_cases h3 : (cutG (a ++ [(⟨10, 0, 0⟩ : S25)])).length = (cutG a).length + 1
        · refine ev_pos (by rw [h3, wrap_small (by omega) (by omega)]; simp) (hj1 ?_)
          refine cutG_joins ⟨(cutG a)[(cutG a).length - 1], ?_, h2⟩ h3
          rw [List.getLast?_eq_getElem?, List.getElem?_eq_getElem]
        · refine ev_neg (by rw [wrap_small (by omega) (by omega)]; omega) (Ev.now _)
      · rw [show ((cutG a)[(cutG a).length - 1].f1 != (a.length : Int)) = true by simp [h2]]
        exact htrue

end Go.Proofs.Ytcejdokeaoklaaa.PChk
