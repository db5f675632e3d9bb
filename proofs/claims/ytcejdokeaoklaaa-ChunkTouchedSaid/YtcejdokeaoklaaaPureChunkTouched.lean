/-
  ChunkTouched, the plain law: which rows the program tells as touched is what the document tells.
-/
import Derived.Test.YtcejdokeaoklaaaPChkx10
import Derived.Test.YtcejdokeaoklaaaChkTouch
namespace Go.Proofs.Ytcejdokeaoklaaa.PChk
open Go.RowKit Go.Proofs.YtcejdokeaoklaaaW.PrintWords Go.Proofs.YtcejdokeaoklaaaW.PrintLast Go.Proofs.YtcejdokeaoklaaaW.PrintMore

theorem rtouched_l1 (l : List S30) (hl : l.length < 8796093022210) (b : Int) (x : Int) : ∀ n j, l.length - j = n → j ≤ l.length → Ev (fun k => scholiastref04_Touched.l1 k l b x (j : Int)) (x, (firstJ l b j : Int)) := by
  intro n
  induction n with
  | zero =>
    intro j hn hj
    have e : j = l.length := by omega
    subst e
    refine Ev.step (fun k => scholiastref04_Touched.l1.eq_2 _ _ _ _ k) (ev_neg (by omega) ?_)
    rw [firstJ_end]
    exact Ev.now _
  | succ n ih =>
    intro j hn hj
    have hlt : j < l.length := by omega
    refine Ev.step (fun k => scholiastref04_Touched.l1.eq_2 _ _ _ _ k) (ev_pos (by omega) (ev_pos (by omega) ?_))
    rw [rd30 hlt, wrap_next hlt (by omega)]
    by_cases h : l[j].f0 < b
    · refine ev_pos h ?_
      rw [firstJ_go hlt h]
      exact ih (j + 1) (by omega) (by omega)
    · refine ev_neg h ?_
      rw [firstJ_stop hlt h]
      exact Ev.now _

theorem rtouched_l0 (l : List S30) (hl : l.length < 8796093022210) (a b y : Int) : ∀ n i, l.length - i = n → i ≤ l.length → Ev (fun k => scholiastref04_Touched.l0 k l a b (i : Int) y) ((firstI l a i : Int), (firstJ l b (firstI l a i) : Int)) := by
  have hj : ∀ i, i ≤ l.length → Ev (fun k => scholiastref04_Touched.j1 k l b (i : Int) y) ((i : Int), (firstJ l b i : Int)) := fun i hi =>
    Ev.step (fun k => scholiastref04_Touched.j1.eq_2 _ _ _ _ k) (rtouched_l1 l hl b (i : Int) _ i rfl hi)
  intro n
  induction n with
  | zero =>
    intro i hn hi
    have e : i = l.length := by omega
    subst e
    refine Ev.step (fun k => scholiastref04_Touched.l0.eq_2 _ _ _ _ _ k) (ev_neg (by omega) ?_)
    rw [firstI_end]
    exact hj _ (Nat.le_refl _)
  | succ n ih =>
    intro i hn hi
    have hlt : i < l.length := by omega
    refine Ev.step (fun k => scholiastref04_Touched.l0.eq_2 _ _ _ _ _ k) (ev_pos (by omega) (ev_pos (by omega) ?_))
    rw [rd30 hlt, wrap_next hlt (by omega)]
    by_cases h : l[i].f1 ≤ a
    · refine ev_pos h ?_
      rw [firstI_go hlt h]
      exact ih (i + 1) (by omega) (by omega)
    · refine ev_neg h ?_
      rw [firstI_stop hlt h]
      exact hj i hi

theorem touched_pure (l : List S30) (a b : Int) (hl : l.length * 16 ≤ 140737488351232) : ∃ k, scholiastlaw04_ChunkTouched.f k l a b = some true := by
  have hl' : l.length < 8796093022208 := by omega
  refine Ev.rounds (g := fun k => scholiastlaw04_ChunkTouched.f k l a b) ?_
  unfold scholiastlaw04_ChunkTouched.f
  refine Ev.bind shown_ev (ev_pos rfl (ev_pos (by simpa using hl') (ev_let rfl ?_)))
  refine Ev.bind (touched_ev l (by omega) a b) (Ev.bind (rtouched_l0 l (by omega) a b 0 _ 0 rfl (Nat.zero_le _)) (ev_pos (by simp) ?_))
  refine Ev.bind (spans_ev l l (by omega)) ?_
  simp only [decide_true]
  exact Ev.now _

end Go.Proofs.Ytcejdokeaoklaaa.PChk
