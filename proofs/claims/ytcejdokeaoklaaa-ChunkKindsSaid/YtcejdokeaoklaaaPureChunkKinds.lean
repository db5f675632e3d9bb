/-
  ChunkKinds, the plain law: the program's kind of a row is the document's.
-/
import Derived.Test.YtcejdokeaoklaaaPChkx9
import Derived.Test.YtcejdokeaoklaaaChkLaws
namespace Go.Proofs.Ytcejdokeaoklaaa.PChk
open Go.RowKit Go.Proofs.YtcejdokeaoklaaaW.PrintWords Go.Proofs.YtcejdokeaoklaaaW.PrintLast Go.Proofs.YtcejdokeaoklaaaW.PrintMore

def sigK (m : List S25) : Int := match m.find? (fun t => !triv t.f0) with
  | none => 0
  | some t => t.f0

theorem sigK_triv {t : S25} {ts : List S25} (h : triv t.f0 = true) : sigK (t :: ts) = sigK ts := by simp [sigK, h]
theorem sigK_sig {t : S25} {ts : List S25} (h : triv t.f0 = false) : sigK (t :: ts) = t.f0 := by simp [sigK, h]

theorem refKind_l0 (m : List S25) (hm : m.length < 5864062014805) : ∀ n j, m.length - j = n → j ≤ m.length → Ev (fun k => scholiastref04_Kind.l0 k m (m.length : Int) (j : Int)) (sigK (m.drop j)) := by
  intro n
  induction n with
  | zero =>
    intro j hn hj
    have e : j = m.length := by omega
    subst e
    refine Ev.step (fun k => scholiastref04_Kind.l0.eq_2 _ _ _ k) (ev_neg (by omega) ?_)
    rw [List.drop_length]
    exact Ev.now _
  | succ n ih =>
    intro j hn hj
    have hlt : j < m.length := by omega
    refine Ev.step (fun k => scholiastref04_Kind.l0.eq_2 _ _ _ k) (ev_pos (by omega) (ev_pos (by omega) (ev_pos (by omega) ?_)))
    rw [rd25 hlt, wrap_next hlt (by omega), List.drop_eq_getElem_cons hlt]
    refine ev_let (ref_trivia m[j].f0) ?_
    cases ht : triv m[j].f0 with
    | true =>
      refine ev_pos rfl ?_
      rw [sigK_triv ht]
      exact ih (j + 1) (by omega) (by omega)
    | false =>
      refine ev_neg (by simp) ?_
      rw [sigK_sig ht]
      exact Ev.now _

theorem refKind_ev (l : List S25) (hl : l.length < 5864062014805) (a b : Int) : Ev (fun k => scholiastref04_Kind.f k l a b) (kindG l a b) := by
  have hout : a < 0 ∨ b < a ∨ (l.length : Int) < b → Ev (fun k => scholiastref04_Kind.j0 k l true a b) (kindG l a b) := fun h => by
    refine Ev.step (fun k => scholiastref04_Kind.j0.eq_2 _ _ _ _ k) (ev_pos rfl ?_)
    unfold kindG
    rw [if_pos h]
    exact Ev.now _
  unfold scholiastref04_Kind.f
  by_cases h1 : a < 0
  · exact ev_pos h1 (hout (.inl h1))
  · refine ev_neg h1 ?_
    by_cases h2 : a > b
    · exact ev_pos h2 (hout (.inr (.inl h2)))
    · refine ev_neg h2 ?_
      by_cases h3 : b > (l.length : Int)
      · rw [decide_eq_true h3]
        exact hout (.inr (.inr h3))
      · rw [decide_eq_false h3]
        refine Ev.step (fun k => scholiastref04_Kind.j0.eq_2 _ _ _ _ k) (ev_neg (by simp) (ev_pos (by omega) (ev_pos (by omega) (ev_pos (by omega) ?_))))
        refine ev_let rfl ?_
        have := refKind_l0 ((l.take b.toNat).drop a.toNat) (by simp only [List.length_drop, List.length_take]; omega) _ 0 rfl (Nat.zero_le _)
        rw [List.drop_zero] at this
        have hk : kindG l a b = sigK ((l.take b.toNat).drop a.toNat) := by
          unfold kindG sigK
          rw [if_neg (by omega)]
          generalize List.find? (fun t : S25 => !triv t.f0) ((l.take b.toNat).drop a.toNat) = o
          cases o <;> rfl
        rw [hk]
        exact this

theorem kinds_pure (l : List S25) (a b : Int) (hl : l.length * 24 ≤ 140737488351232) : ∃ k, scholiastlaw04_ChunkKinds.f k l a b = some true := by
  have hl' : l.length < 5864062014805 := by omega
  refine Ev.rounds (g := fun k => scholiastlaw04_ChunkKinds.f k l a b) ?_
  unfold scholiastlaw04_ChunkKinds.f
  refine Ev.bind shown_ev (ev_pos rfl (ev_let (show chunk_Kind.f l a b = some (kindG l a b) from if_pos hl') (Ev.bind (refKind_ev l hl' a b) ?_)))
  rw [show (kindG l a b == kindG l a b) = true by simp]
  exact Ev.now _

end Go.Proofs.Ytcejdokeaoklaaa.PChk
