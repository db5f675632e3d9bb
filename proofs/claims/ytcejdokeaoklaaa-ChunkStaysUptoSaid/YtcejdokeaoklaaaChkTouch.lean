/-
  Which rows are touched: the program's answer, on lists.
-/
import Derived.Test.YtcejdokeaoklaaaChkLaws
namespace Go.Proofs.Ytcejdokeaoklaaa.PChk
open Go.RowKit Go.Proofs.YtcejdokeaoklaaaW.PrintWords Go.Proofs.YtcejdokeaoklaaaW.PrintLast Go.Proofs.YtcejdokeaoklaaaW.PrintMore

/-- From i on: the first row whose To is beyond a; whose From is not below b. -/
def firstI (l : List S30) (a : Int) (i : Nat) : Nat := i + ((l.drop i).takeWhile (fun s => decide (s.f1 ≤ a))).length
def firstJ (l : List S30) (b : Int) (i : Nat) : Nat := i + ((l.drop i).takeWhile (fun s => decide (s.f0 < b))).length

theorem firstI_end {l : List S30} {a : Int} : firstI l a l.length = l.length := by simp [firstI]
theorem firstJ_end {l : List S30} {a : Int} : firstJ l a l.length = l.length := by simp [firstJ]
theorem firstI_go {l : List S30} {a : Int} {i : Nat} (h : i < l.length) (ha : l[i].f1 ≤ a) : firstI l a i = firstI l a (i + 1) := by
  unfold firstI
  rw [List.drop_eq_getElem_cons h, List.takeWhile_cons, if_pos (by simpa using ha), List.length_cons]
  omega
theorem firstI_stop {l : List S30} {a : Int} {i : Nat} (h : i < l.length) (ha : ¬ l[i].f1 ≤ a) : firstI l a i = i := by
  unfold firstI
  rw [List.drop_eq_getElem_cons h, List.takeWhile_cons, if_neg (by simpa using ha)]
  simp
theorem firstJ_go {l : List S30} {a : Int} {i : Nat} (h : i < l.length) (ha : l[i].f0 < a) : firstJ l a i = firstJ l a (i + 1) := by
  unfold firstJ
  rw [List.drop_eq_getElem_cons h, List.takeWhile_cons, if_pos (by simpa using ha), List.length_cons]
  omega
theorem firstJ_stop {l : List S30} {a : Int} {i : Nat} (h : i < l.length) (ha : ¬ l[i].f0 < a) : firstJ l a i = i := by
  unfold firstJ
  rw [List.drop_eq_getElem_cons h, List.takeWhile_cons, if_neg (by simpa using ha)]
  simp
theorem firstI_le {l : List S30} {a : Int} {i : Nat} (h : i ≤ l.length) : firstI l a i ≤ l.length := by
  unfold firstI
  have := (List.takeWhile_sublist (l := l.drop i) (fun s => decide (s.f1 ≤ a))).length_le
  rw [List.length_drop] at this
  omega

theorem touched_l1 (l : List S30) (hl : l.length < 8796093022210) (b : Int) (x : Int) : ∀ n j, l.length - j = n → j ≤ l.length → Ev (fun k => chunk_Touched.l1 k l b x (j : Int)) (x, (firstJ l b j : Int)) := by
  intro n
  induction n with
  | zero =>
    intro j hn hj
    have e : j = l.length := by omega
    subst e
    refine Ev.step (fun k => chunk_Touched.l1.eq_2 _ _ _ _ k) (ev_neg (by omega) ?_)
    rw [firstJ_end]
    exact Ev.now _
  | succ n ih =>
    intro j hn hj
    have hlt : j < l.length := by omega
    refine Ev.step (fun k => chunk_Touched.l1.eq_2 _ _ _ _ k) (ev_pos (by omega) (ev_pos (by omega) ?_))
    rw [rd30 hlt, wrap_next hlt (by omega)]
    by_cases h : l[j].f0 < b
    · refine ev_pos h ?_
      rw [firstJ_go hlt h]
      exact ih (j + 1) (by omega) (by omega)
    · refine ev_neg h ?_
      rw [firstJ_stop hlt h]
      exact Ev.now _

theorem touched_l0 (l : List S30) (hl : l.length < 8796093022210) (a b : Int) : ∀ n i, l.length - i = n → i ≤ l.length → Ev (fun k => chunk_Touched.l0 k l a b (i : Int)) ((firstI l a i : Int), (firstJ l b (firstI l a i) : Int)) := by
  have hj : ∀ i, i ≤ l.length → Ev (fun k => chunk_Touched.j1 k l b (i : Int)) ((i : Int), (firstJ l b i : Int)) := fun i hi =>
    Ev.step (fun k => chunk_Touched.j1.eq_2 _ _ _ k) (touched_l1 l hl b (i : Int) _ i rfl hi)
  intro n
  induction n with
  | zero =>
    intro i hn hi
    have e : i = l.length := by omega
    subst e
    refine Ev.step (fun k => chunk_Touched.l0.eq_2 _ _ _ _ k) (ev_neg (by omega) ?_)
    rw [firstI_end]
    exact hj _ (Nat.le_refl _)
  | succ n ih =>
    intro i hn hi
    have hlt : i < l.length := by omega
    refine Ev.step (fun k => chunk_Touched.l0.eq_2 _ _ _ _ k) (ev_pos (by omega) (ev_pos (by omega) ?_))
    rw [rd30 hlt, wrap_next hlt (by omega)]
    by_cases h : l[i].f1 ≤ a
    · refine ev_pos h ?_
      rw [firstI_go hlt h]
      exact ih (i + 1) (by omega) (by omega)
    · refine ev_neg h ?_
      rw [firstI_stop hlt h]
      exact hj i hi

/-- **chunk.Touched, on lists.** -/
theorem touched_ev (l : List S30) (hl : l.length < 8796093022210) (a b : Int) : Ev (fun k => chunk_Touched.f k l a b) ((firstI l a 0 : Int), (firstJ l b (firstI l a 0) : Int)) :=
  touched_l0 l hl a b _ 0 rfl (Nat.zero_le _)

end Go.Proofs.Ytcejdokeaoklaaa.PChk
