/-
  ChunkCovers, the plain law: regions lie one behind the other, each has a significant token, each but the last one ends with its semicolon; those that are touched are those that have a token there.
-/
import Derived.Test.YtcejdokeaoklaaaPChkx10
import Derived.Test.YtcejdokeaoklaaaPChkx11
import Derived.Test.YtcejdokeaoklaaaChkThm
import Derived.Test.YtcejdokeaoklaaaChkTouch
namespace Go.Proofs.Ytcejdokeaoklaaa.PChk
open Go.RowKit Go.Proofs.YtcejdokeaoklaaaW.PrintWords Go.Proofs.YtcejdokeaoklaaaW.PrintLast Go.Proofs.YtcejdokeaoklaaaW.PrintMore

theorem weighs_l0 (m : List S25) (hm : m.length < 5864062014805) : ∀ n j, m.length - j = n → j ≤ m.length → Ev (fun k => scholiastlaw04_weighs.l0 k m (m.length : Int) (j : Int)) (wts (m.drop j)) := by
  intro n
  induction n with
  | zero =>
    intro j hn hj
    have e : j = m.length := by omega
    subst e
    refine Ev.step (fun k => scholiastlaw04_weighs.l0.eq_2 _ _ _ k) (ev_neg (by omega) ?_)
    rw [List.drop_length]
    exact Ev.now _
  | succ n ih =>
    intro j hn hj
    have hlt : j < m.length := by omega
    refine Ev.step (fun k => scholiastlaw04_weighs.l0.eq_2 _ _ _ k) (ev_pos (by omega) (ev_pos (by omega) (ev_pos (by omega) ?_)))
    rw [rd25 hlt, wrap_next hlt (by omega), List.drop_eq_getElem_cons hlt, wts_cons]
    refine ev_let (trivia_f m[j].f0) ?_
    cases ht : triv m[j].f0 with
    | true =>
      refine ev_pos rfl ?_
      rw [Bool.not_true, Bool.false_or]
      exact ih (j + 1) (by omega) (by omega)
    | false =>
      refine ev_neg (by simp) ?_
      rw [Bool.not_false, Bool.true_or]
      exact Ev.now _

theorem weighs_ev (m : List S25) (hm : m.length < 5864062014805) : Ev (fun k => scholiastlaw04_weighs.f k m) (wts m) := by
  have := weighs_l0 m hm _ 0 rfl (Nat.zero_le _)
  rw [List.drop_zero] at this
  exact this

/-! ### Regions rise -/
theorem cutFrom_rise (l : List S25) : ∀ n o, l.length - o = n → o ≤ l.length → (∀ x ∈ cutFrom l o, (o : Int) ≤ x.f0 ∧ x.f0 < x.f1) ∧ (cutFrom l o).Pairwise (fun x y => x.f1 ≤ y.f0) := by
  intro n
  induction n using Nat.strongRecOn with
  | _ n ih =>
    intro o hn ho
    rcases cutFrom_cases ho with ⟨h, _⟩ | ⟨e, h1, h2, h3, _⟩
    · rw [h]
      exact ⟨fun x hx => (by cases hx), List.Pairwise.nil⟩
    · obtain ⟨i1, i2⟩ := ih (l.length - e) (by omega) e rfl h2
      rw [h3]
      refine ⟨fun x hx => ?_, List.Pairwise.cons (fun y hy => (i1 y hy).1) i2⟩
      rw [List.mem_cons] at hx
      rcases hx with rfl | hx
      · simp only; omega
      · have := i1 x hx; omega

theorem cutG_rise (l : List S25) {i j : Nat} (hij : i < j) (hj : j < (cutG l).length) : (cutG l)[i].f0 < (cutG l)[j].f0 ∧ (cutG l)[i].f1 < (cutG l)[j].f1 := by
  have h := cutFrom_rise l _ 0 rfl (Nat.zero_le _)
  rw [cutFrom_zero] at h
  have h1 := List.pairwise_iff_getElem.1 h.2 i j (by omega) hj hij
  have h2 := (h.1 _ (List.getElem_mem (show i < (cutG l).length by omega))).2
  have h3 := (h.1 _ (List.getElem_mem hj)).2
  omega

theorem tw_spec {α : Type} (p : α → Bool) : ∀ (l : List α) (i : Nat) (h : i < l.length), (i < (l.takeWhile p).length → p l[i] = true) ∧ (i = (l.takeWhile p).length → p l[i] = false) := by
  intro l
  induction l with
  | nil => intro i h; simp at h
  | cons x xs ih =>
    intro i h
    rw [List.takeWhile_cons]
    by_cases hp : p x = true
    · rw [if_pos hp]
      cases i with
      | zero => exact ⟨fun _ => hp, fun e => by simp at e⟩
      | succ i =>
        have := ih i (by simpa using h)
        simp only [List.length_cons, List.getElem_cons_succ]
        exact ⟨fun e => this.1 (by omega), fun e => this.2 (by omega)⟩
    · rw [if_neg hp]
      cases i with
      | zero => exact ⟨fun e => by simp at e, fun _ => by simpa using hp⟩
      | succ i => exact ⟨fun e => by simp at e, fun e => by simp at e⟩

theorem firstI_iff (l : List S25) (a : Int) {i : Nat} (hi : i < (cutG l).length) : (cutG l)[i].f1 > a ↔ firstI (cutG l) a 0 ≤ i := by
  have hI : firstI (cutG l) a 0 = ((cutG l).takeWhile (fun s => decide (s.f1 ≤ a))).length := by simp [firstI]
  rw [hI]
  constructor
  · intro h
    refine Nat.le_of_not_lt fun hlt => ?_
    have := (tw_spec _ _ i hi).1 hlt
    simp at this
    omega
  · intro h
    have hn := (tw_spec (fun s : S30 => decide (s.f1 ≤ a)) (cutG l) _ (show ((cutG l).takeWhile (fun s => decide (s.f1 ≤ a))).length < (cutG l).length by omega)).2 rfl
    simp only [decide_eq_false_iff_not, Int.not_le] at hn
    rcases Nat.lt_or_eq_of_le h with h | h
    · have := (cutG_rise l h hi).2
      omega
    · have : (cutG l)[i] = (cutG l)[((cutG l).takeWhile (fun s => decide (s.f1 ≤ a))).length]'(by omega) := by congr 1; exact h.symm
      rw [this]
      exact hn

theorem firstJ_iff (l : List S25) (b : Int) {I i : Nat} (hI : I ≤ i) (hi : i < (cutG l).length) : (cutG l)[i].f0 < b ↔ i < firstJ (cutG l) b I := by
  unfold firstJ
  have hd : i - I < ((cutG l).drop I).length := by rw [List.length_drop]; omega
  have hget : ((cutG l).drop I)[i - I] = (cutG l)[i] := by rw [List.getElem_drop]; congr 1; omega
  constructor
  · intro h
    refine Nat.lt_of_not_le fun hle => ?_
    have hlt : (((cutG l).drop I).takeWhile (fun s => decide (s.f0 < b))).length < ((cutG l).drop I).length := by omega
    have hn := (tw_spec (fun s : S30 => decide (s.f0 < b)) ((cutG l).drop I) _ hlt).2 rfl
    simp only [decide_eq_false_iff_not, Int.not_lt] at hn
    rw [List.getElem_drop] at hn
    rcases Nat.lt_or_eq_of_le (show I + (((cutG l).drop I).takeWhile (fun s => decide (s.f0 < b))).length ≤ i by omega) with h4 | h4
    · have := (cutG_rise l h4 hi).1
      omega
    · have : (cutG l)[i] = (cutG l)[I + (((cutG l).drop I).takeWhile (fun s => decide (s.f0 < b))).length]'(by omega) := by congr 1; exact h4.symm
      rw [this] at h
      omega
  · intro h
    have := (tw_spec (fun s : S30 => decide (s.f0 < b)) ((cutG l).drop I) (i - I) hd).1 (by omega)
    rw [hget] at this
    simpa using this

theorem covers_l1 (l : List S25) (hl : l.length < 5864062014805) (a b : Int) : ∀ n i, (cutG l).length - i = n → i ≤ (cutG l).length →
    Ev (fun k => scholiastlaw04_ChunkCovers.l1 k a b (cutG l) ((cutG l).length : Int) (i : Int) (firstI (cutG l) a 0 : Int) (firstJ (cutG l) b (firstI (cutG l) a 0) : Int)) true := by
  have hcl := cutG_length l
  intro n
  induction n with
  | zero =>
    intro i hn hi
    refine Ev.step (fun k => scholiastlaw04_ChunkCovers.l1.eq_2 _ _ _ _ _ _ _ k) (ev_neg (by omega) (Ev.now _))
  | succ n ih =>
    intro i hn hi
    have hlt : i < (cutG l).length := by omega
    have h1 := firstI_iff l a hlt
    refine Ev.step (fun k => scholiastlaw04_ChunkCovers.l1.eq_2 _ _ _ _ _ _ _ k) (ev_pos (by omega) (ev_pos (by omega) (ev_pos (by omega) ?_)))
    rw [rd30 hlt, wrap_next hlt (by omega)]
    have hnext := ih (i + 1) (by omega) (by omega)
    by_cases h : (cutG l)[i].f1 > a
    · have hI := h1.1 h
      have h2 := firstJ_iff l b hI hlt
      refine ev_pos h (ev_pos (by omega) (ev_neg ?_ hnext))
      rw [show decide ((cutG l)[i].f0 < b) = decide ((i : Int) < (firstJ (cutG l) b (firstI (cutG l) a 0) : Int)) from decide_eq_decide.2 (by rw [h2]; omega)]
      simp
    · have hI : ¬ firstI (cutG l) a 0 ≤ i := fun e => h (h1.2 e)
      exact ev_neg h (ev_neg (by omega) hnext)

theorem covers_l0 (l : List S25) (hl : l.length < 5864062014805) (a b : Int) : ∀ n i o, (cutG l).length - i = n → i ≤ (cutG l).length → o ≤ l.length → (cutG l).drop i = cutFrom l o →
    Ev (fun k => scholiastlaw04_ChunkCovers.l0 k l a b (cutG l) (o : Int) (cutG l) ((cutG l).length : Int) (i : Int)) true := by
  have hcl := cutG_length l
  intro n
  induction n with
  | zero =>
    intro i o hn hi ho hd
    have e : i = (cutG l).length := by omega
    subst e
    rw [List.drop_length] at hd
    have hw : wts (l.drop o) = false := by
      rcases cutFrom_cases ho with ⟨_, h⟩ | ⟨e, _, _, h3, _⟩
      · exact h
      · rw [← hd] at h3; cases h3
    have hj2 : ∀ flag, Ev (fun k => scholiastlaw04_ChunkCovers.j2 k a b (cutG l) flag) true := by
      intro flag
      cases flag with
      | true => exact Ev.step (fun k => scholiastlaw04_ChunkCovers.j2.eq_2 _ _ _ _ k) (ev_pos rfl (Ev.now _))
      | false => exact Ev.step (fun k => scholiastlaw04_ChunkCovers.j2.eq_2 _ _ _ _ k) (ev_neg (by simp) (Ev.bind (touched_ev (cutG l) (by omega) a b) (covers_l1 l hl a b _ 0 rfl (Nat.zero_le _))))
    refine Ev.step (fun k => scholiastlaw04_ChunkCovers.l0.eq_2 _ _ _ _ _ _ _ _ k) (ev_neg (by omega) (ev_pos (by omega) (ev_pos (by omega) ?_)))
    rw [Int.toNat_natCast]
    refine Ev.bind (weighs_ev (l.drop o) (by rw [List.length_drop]; omega)) ?_
    refine ev_neg (by simp [hw]) ?_
    by_cases h : a < 0
    · exact ev_pos h (hj2 _)
    · exact ev_neg h (hj2 _)
  | succ n ih =>
    intro i o hn hi ho hd
    have hlt : i < (cutG l).length := by omega
    rw [List.drop_eq_getElem_cons hlt] at hd
    rcases cutFrom_cases ho with ⟨h, _⟩ | ⟨e, h1, h2, h3, h4, h5⟩
    · rw [h] at hd; cases hd
    · rw [h3] at hd
      simp only [List.cons.injEq] at hd
      obtain ⟨hri, hrest⟩ := hd
      have hnext := ih (i + 1) e (by omega) (by omega) h2 hrest
      refine Ev.step (fun k => scholiastlaw04_ChunkCovers.l0.eq_2 _ _ _ _ _ _ _ _ k) (ev_pos (by omega) (ev_pos (by omega) (ev_pos (by omega) ?_)))
      rw [rd30 hlt, hri]
      simp only
      refine ev_pos trivial (ev_neg (by omega) (ev_neg (by omega) (ev_pos (by omega) (ev_pos (by omega) (ev_pos (by omega) ?_)))))
      rw [Int.toNat_natCast, Int.toNat_natCast]
      refine Ev.bind (weighs_ev ((l.take e).drop o) (by rw [List.length_drop, List.length_take]; omega)) ?_
      rw [h4, Bool.not_true]
      have hwe : wrap64 ((e : Int) - 1) = ((e - 1 : Nat) : Int) := by rw [wrap_small (by omega) (by omega)]; omega
      have hel : e - 1 < l.length := by omega
      refine Ev.step (fun k => scholiastlaw04_ChunkCovers.j1.eq_2 _ _ _ _ _ _ _ _ _ _ _ k) (ev_neg (by simp) ?_)
      rw [hwe, wrap_next hlt (by omega)]
      refine ev_pos (by omega) (ev_pos (by omega) ?_)
      by_cases hmore : i + 1 < (cutG l).length
      · refine ev_pos (by omega) ?_
        have hne : e < l.length := by
          refine Nat.lt_of_not_le fun hle => ?_
          have hz := cutFrom_end hle
          rw [← hrest] at hz
          have := congrArg List.length hz
          rw [List.length_drop] at this
          simp at this
          omega
        obtain ⟨t, ht, hs⟩ := h5 hne
        rw [List.getElem?_eq_getElem hel] at ht
        have ht' := Option.some.inj ht
        rw [rd25 hel, ht']
        simp only [semis, Bool.or_eq_true, beq_iff_eq] at hs
        rcases hs with hs | hs
        · exact ev_pos hs hnext
        · exact ev_neg (by omega) (ev_pos hs hnext)
      · exact ev_neg (by omega) hnext

theorem covers_pure (l : List S25) (a b : Int) (hl0 : l.length * 24 ≤ 140737488351232) : ∃ k, scholiastlaw04_ChunkCovers.f k l a b = some true := by
  have hl : l.length < 5864062014805 := by omega
  refine Ev.rounds (g := fun k => scholiastlaw04_ChunkCovers.f k l a b) ?_
  unfold scholiastlaw04_ChunkCovers.f
  refine Ev.bind shown_ev (ev_pos rfl (ev_let (cut_f hl) ?_))
  exact covers_l0 l hl a b _ 0 0 rfl (Nat.zero_le _) (Nat.zero_le _) (by rw [List.drop_zero, cutFrom_zero])

end Go.Proofs.Ytcejdokeaoklaaa.PChk
