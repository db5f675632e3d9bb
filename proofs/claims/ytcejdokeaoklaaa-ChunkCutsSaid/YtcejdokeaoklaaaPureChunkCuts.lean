/-
  ChunkCuts, the plain law: the program's regions are the document's; what came in stays; what comes out is the caller's.
-/
import Derived.Test.YtcejdokeaoklaaaPChkx8
import Derived.Test.YtcejdokeaoklaaaChkLaws
namespace Go.Proofs.Ytcejdokeaoklaaa.PChk
open Go.RowKit Go.Proofs.YtcejdokeaoklaaaW.PrintWords Go.Proofs.YtcejdokeaoklaaaW.PrintLast Go.Proofs.YtcejdokeaoklaaaW.PrintMore

theorem s25_eq {a b : S25} : a = b ↔ a.f0 = b.f0 ∧ a.f1 = b.f1 ∧ a.f2 = b.f2 := by
  cases a; cases b; simp

theorem cuts_l1 (c t8 : List S30) (hc : c.length < 8796093022200) (he : t8 = c) : ∀ (n j : Nat) (x5 : List S30), x5.length = c.length → c.length - j = n → j ≤ c.length →
    Ev (fun k => scholiastlaw04_ChunkCuts.l1 k x5 c t8 (c.length : Int) (j : Int)) true := by
  intro n
  induction n with
  | zero =>
    intro j x5 hx hn hj
    have e : j = c.length := by omega
    subst e
    refine Ev.step (fun k => scholiastlaw04_ChunkCuts.l1.eq_2 _ _ _ _ _ k) (ev_neg (by omega) (ev_let rfl (ev_pos (by simp; omega) (Ev.bind (spans_ev t8 c (by rw [he]; omega)) ?_))))
    refine ev_pos (by simp [he]) ?_
    have e1 : ((x5 ++ [(⟨-1, 0⟩ : S30), ⟨-1, 0⟩]).length : Int) = (c.length : Int) + 2 := by simp [hx]
    rw [e1, wrap_small (by omega) (by omega)]
    simp only [BEq.rfl]
    exact Ev.now _
  | succ n ih =>
    intro j x5 hx hn hj
    refine Ev.step (fun k => scholiastlaw04_ChunkCuts.l1.eq_2 _ _ _ _ _ k) (ev_pos (by omega) (ev_pos (by omega) (ev_pos (by omega) ?_)))
    rw [wrap_next (show j < c.length by omega) (by omega)]
    exact ih (j + 1) _ (by simp [hx]) (by omega) (by omega)

theorem cuts_l0 (l : List S25) (hl : l.length < 5864062014804) : ∀ (n j : Nat) (y : List S25), y.length = l.length + 1 → (∀ i (h : i < l.length), j ≤ i → y[i]? = some l[i]) → l.length - j = n → j ≤ l.length →
    Ev (fun k => scholiastlaw04_ChunkCuts.l0 k l y (cutG l) (cutG l) (l.length : Int) (j : Int)) true := by
  have hcl := cutG_length l
  intro n
  induction n with
  | zero =>
    intro j y hy _ hn hj
    have e : j = l.length := by omega
    subst e
    refine Ev.step (fun k => scholiastlaw04_ChunkCuts.l0.eq_2 _ _ _ _ _ _ k) (ev_neg (by omega) (ev_pos (by simp; omega) ?_))
    rw [List.nil_append]
    refine ev_let (cut_f (by omega)) ?_
    exact cuts_l1 (cutG l) (cutG l) (by omega) rfl _ 0 _ rfl rfl (Nat.zero_le _)
  | succ n ih =>
    intro j y hy hsame hn hj
    have hlt : j < l.length := by omega
    have hyj := hsame j hlt (Nat.le_refl _)
    have hjy : j < y.length := by omega
    rw [List.getElem?_eq_getElem hjy] at hyj
    have hyj := Option.some.inj hyj
    refine Ev.step (fun k => scholiastlaw04_ChunkCuts.l0.eq_2 _ _ _ _ _ _ k) (ev_pos (by omega) (ev_pos (by omega) (ev_pos (by omega) (ev_pos (by omega) ?_))))
    rw [rd25 hlt, rd25 hjy, hyj, wrap_next hlt (by omega)]
    refine ev_neg (by simp) ?_
    refine ih (j + 1) _ (by simp [hy]) ?_ (by omega) (by omega)
    intro i h hi
    rw [Int.toNat_natCast, List.getElem?_set_ne (by omega)]
    exact hsame i h (by omega)

theorem cuts_pure (l : List S25) (hl0 : l.length * 24 ≤ 140737488351232) : ∃ k, scholiastlaw04_ChunkCuts.f k l = some true := by
  have hl : l.length < 5864062014804 := by omega
  have hcl := cutG_length l
  refine Ev.rounds (g := fun k => scholiastlaw04_ChunkCuts.f k l) ?_
  unfold scholiastlaw04_ChunkCuts.f
  refine Ev.bind shown_ev (ev_pos rfl (ev_pos (by simp; omega) (ev_let rfl (ev_let rfl (ev_pos (by simp; omega) (ev_let rfl (ev_pos (by omega) (ev_pos (by simp; omega) ?_))))))))
  have e1 : (([] ++ l) ++ [(⟨59, -7, 0⟩ : S25)]).take (l.length : Int).toNat = l := by simp
  rw [e1]
  refine ev_let (cut_f (by omega)) (Ev.bind (refCut_ev l (by omega)) (Ev.bind (spans_ev (cutG l) (cutG l) (by omega)) (ev_pos (by simp) (ev_pos (by simp; omega) ?_))))
  have e2 : rd_T25 (([] ++ l) ++ [(⟨59, -7, 0⟩ : S25)]) (l.length : Int) = ⟨59, -7, 0⟩ := by
    rw [rd25 (by simp)]
    simp
  rw [e2]
  refine Ev.step (fun k => scholiastlaw04_ChunkCuts.j0.eq_2 _ _ _ _ _ k) (ev_neg (by decide) ?_)
  refine cuts_l0 l hl _ 0 _ (by simp) ?_ rfl (Nat.zero_le _)
  intro i h _
  rw [List.nil_append, List.getElem?_append_left h, List.getElem?_eq_getElem h]

end Go.Proofs.Ytcejdokeaoklaaa.PChk
