/-
  PLAIN LAWS: what the document's answers come to, from some number of rounds on: the regions, the kind of a row, which rows are touched; two lists of rows are the same.
-/
import Derived.Test.YtcejdokeaoklaaaPChkx6
import Derived.Test.YtcejdokeaoklaaaPChkx7
namespace Go.Proofs.Ytcejdokeaoklaaa.PChk
open Go.RowKit Go.Proofs.YtcejdokeaoklaaaW.PrintWords Go.Proofs.YtcejdokeaoklaaaW.PrintLast Go.Proofs.YtcejdokeaoklaaaW.PrintMore

section
variable {α β : Type} {r : α}
theorem ev_pos {c : Prop} [Decidable c] {f g : Nat → Option α} (hc : c) (h : Ev f r) : Ev (fun k => if c then f k else g k) r := Ev.congr (fun _ => if_pos hc) h
theorem ev_neg {c : Prop} [Decidable c] {f g : Nat → Option α} (hc : ¬ c) (h : Ev g r) : Ev (fun k => if c then f k else g k) r := Ev.congr (fun _ => if_neg hc) h
theorem ev_let {f : Nat → β → Option α} {b : β} {o : Option β} (ho : o = some b) (h : Ev (fun k => f k b) r) : Ev (fun k => o.bind (f k)) r := Ev.congr (fun k => by rw [ho]; rfl) h
end

theorem shown_ev : Ev (fun k => scholiastlaw04_shown.f k) true := Ev.of (fun k => scholiastlaw04_shown.mono k) (k := 60) (by decide +kernel)

instance : DecidableEq S30 := fun a b => match a, b with
  | ⟨a0, a1⟩, ⟨b0, b1⟩ => if h : a0 = b0 ∧ a1 = b1 then .isTrue (by obtain ⟨rfl, rfl⟩ := h; rfl) else .isFalse (fun e => h (by cases e; exact ⟨rfl, rfl⟩))

theorem rd30 {l : List S30} {n : Nat} (h : n < l.length) : rd_T30 l (n : Int) = l[n] := by
  simp [rd_T30, List.getD, h]

theorem wrap_next {n m : Nat} (h : n < m) (hm : m < 9223372036854775808) : wrap64 ((n : Int) + 1) = ((n + 1 : Nat) : Int) := by
  rw [wrap_small (by omega) (by omega)]
  simp

theorem s30_eq {a b : S30} : a = b ↔ a.f0 = b.f0 ∧ a.f1 = b.f1 := by
  cases a; cases b; simp

theorem spans_l0 (a b : List S30) (hab : a.length = b.length) (hl : a.length < 8796093022210) : ∀ n j, a.length - j = n → j ≤ a.length → Ev (fun k => scholiastlaw04_spans.l0 k a b (a.length : Int) (j : Int)) (decide (a.drop j = b.drop j)) := by
  intro n
  induction n with
  | zero =>
    intro j hn hj
    have e : j = a.length := by omega
    subst e
    refine Ev.step (fun k => scholiastlaw04_spans.l0.eq_2 _ _ _ _ k) ?_
    refine ev_neg (by omega) ?_
    rw [List.drop_length, show b.drop a.length = [] by rw [hab]; exact List.drop_length]
    exact Ev.now _
  | succ n ih =>
    intro j hn hj
    have hlt : j < a.length := by omega
    refine Ev.step (fun k => scholiastlaw04_spans.l0.eq_2 _ _ _ _ k) ?_
    refine ev_pos (by omega) (ev_pos (by omega) (ev_pos (by omega) (ev_pos (by omega) ?_)))
    rw [rd30 hlt, rd30 (show j < b.length by omega), List.drop_eq_getElem_cons hlt, List.drop_eq_getElem_cons (show j < b.length by omega), wrap_next hlt (by omega)]
    by_cases h : a[j] = b[j]
    · refine ev_neg (by rw [h]; simp) ?_
      have := ih (j + 1) (by omega) (by omega)
      rw [show decide (a[j] :: a.drop (j + 1) = b[j] :: b.drop (j + 1)) = decide (a.drop (j + 1) = b.drop (j + 1)) from decide_eq_decide.2 (by rw [List.cons.injEq]; simp only [h, true_and])]
      exact this
    · refine ev_pos (by rw [s30_eq] at h; simp only [Bool.or_eq_true, Bool.not_eq_true', beq_eq_false_iff_ne]; omega) ?_
      rw [show decide (a[j] :: a.drop (j + 1) = b[j] :: b.drop (j + 1)) = false from decide_eq_false (by rw [List.cons.injEq]; intro e; exact h e.1)]
      exact Ev.now _

/-- **spans: are two lists of rows the same?** -/
theorem spans_ev (a b : List S30) (hl : a.length < 8796093022210) : Ev (fun k => scholiastlaw04_spans.f k a b) (decide (a = b)) := by
  unfold scholiastlaw04_spans.f
  by_cases h : a.length = b.length
  · exact ev_pos (by omega) (by simpa using spans_l0 a b h hl a.length 0 rfl (Nat.zero_le _))
  · refine ev_neg (by omega) ?_
    rw [show decide (a = b) = false by simp; intro e; exact h (by rw [e])]
    exact Ev.now _

/-! ### The document's regions -/

theorem ref_trivia (a : Int) : scholiastref02_Trivia.f a = some (triv a) := by
  unfold scholiastref02_Trivia.f triv
  by_cases h : 1 ≤ a
  · simp [h]
  · simp [h]

/-- The depth behind a token. -/
def depB (d : Nat) (a : Int) : Nat := if opens a = true then d + 1 else if closes a = true then d - 1 else d

theorem deeper_ev (d : Nat) (a : Int) (hd : d < 9223372036854775807) : Ev (fun k => scholiastref04_deeper.f k (d : Int) a) ((depB d a : Nat) : Int) := by
  have hwd : wrap64 ((d : Int) + 1) = ((d + 1 : Nat) : Int) := by rw [wrap_small (by omega) (by omega)]; simp
  have hwm : mx (wrap64 ((d : Int) - 1)) 0 = ((d - 1 : Nat) : Int) := by
    rw [wrap_small (by omega) (by omega)]
    unfold mx
    split <;> omega
  have hj : Ev (fun k => scholiastref04_deeper.j0 k (d : Int) a (opens a)) ((depB d a : Nat) : Int) := by
    refine Ev.step (fun k => scholiastref04_deeper.j0.eq_2 _ _ _ k) ?_
    by_cases ho : opens a = true
    · refine ev_pos ho ?_
      rw [hwd, show depB d a = d + 1 by unfold depB; rw [if_pos ho]]
      exact Ev.now _
    · refine ev_neg ho ?_
      rw [hwm]
      by_cases hc : closes a = true
      · rw [show depB d a = d - 1 by unfold depB; rw [if_neg ho, if_pos hc]]
        by_cases h1 : a = 62
        · exact ev_pos h1 (Ev.now _)
        · refine ev_neg h1 ?_
          by_cases h2 : a = 63
          · exact ev_pos h2 (Ev.now _)
          · refine ev_neg h2 (ev_pos ?_ (Ev.now _))
            simpa [closes, h1, h2] using hc
      · rw [show depB d a = d by unfold depB; rw [if_neg ho, if_neg hc]]
        simp only [closes, Bool.or_eq_true, beq_iff_eq, not_or] at hc
        exact ev_neg hc.1.1 (ev_neg hc.1.2 (ev_neg hc.2 (Ev.now _)))
  unfold scholiastref04_deeper.f
  by_cases h1 : a = 57
  · refine ev_pos h1 ?_
    rw [show (a == 57) = opens a by simp [opens, h1]]
    exact hj
  · refine ev_neg h1 ?_
    by_cases h2 : a = 58
    · refine ev_pos h2 ?_
      rw [show (a == 58) = opens a by simp [opens, h2]]
      exact hj
    · refine ev_neg h2 ?_
      rw [show (a == 59) = opens a by simp [opens, show (a == 57) = false by simpa using h1, show (a == 58) = false by simpa using h2]]
      exact hj

/-- The document's regions, token by token: ts stand behind j others, the region at hand began at f, its depth is d, s: has it a significant token. -/
def refS : List S25 → Nat → Nat → Nat → Bool → List S30
  | [], j, f, _, s => if s = true then [⟨(f : Int), (j : Int)⟩] else []
  | t :: ts, j, f, d, s => if (semis t.f0 && d == 0) = true then ⟨(f : Int), ((j + 1 : Nat) : Int)⟩ :: refS ts (j + 1) (j + 1) 0 false else refS ts (j + 1) f (depB d t.f0) (s || !triv t.f0)

theorem semis_sig {a : Int} (h : semis a = true) : triv a = false ∧ opens a = false ∧ closes a = false := by
  simp only [semis, Bool.or_eq_true, beq_iff_eq] at h
  rcases h with rfl | rfl <;> decide
theorem closes_not {a : Int} (h : opens a = true) : closes a = false := by
  simp only [opens, Bool.or_eq_true, beq_iff_eq] at h
  rcases h with (rfl | rfl) | rfl <;> decide

theorem regEnd_semi {t : S25} {ts : List S25} {d : Nat} {s : Bool} (hm : (semis t.f0 && d == 0) = true) : regEnd (t :: ts) d s = (1, true) := by
  have hm' := hm
  simp only [Bool.and_eq_true, beq_iff_eq] at hm'
  obtain ⟨hsem, _⟩ := hm'
  obtain ⟨h1, h2, h3⟩ := semis_sig hsem
  simp only [regEnd]
  rw [if_neg (by simp [h2]), if_neg (by simp [h3]), if_pos hm, h1]
  simp
theorem regEnd_go {t : S25} {ts : List S25} {d : Nat} {s : Bool} (hm : ¬ (semis t.f0 && d == 0) = true) :
    regEnd (t :: ts) d s = ((regEnd ts (depB d t.f0) (s || !triv t.f0)).1 + 1, (regEnd ts (depB d t.f0) (s || !triv t.f0)).2) := by
  simp only [regEnd]
  by_cases ho : opens t.f0 = true
  · rw [if_pos ho, show depB d t.f0 = d + 1 by unfold depB; rw [if_pos ho]]
  · by_cases hc : closes t.f0 = true
    · rw [if_neg ho, if_pos hc, show depB d t.f0 = d - 1 by unfold depB; rw [if_neg ho, if_pos hc]]
    · rw [if_neg ho, if_neg hc, if_neg hm, show depB d t.f0 = d by unfold depB; rw [if_neg ho, if_neg hc]]

theorem refS_eq (ts : List S25) : ∀ (n j f d : Nat) (s : Bool), ts.length ≤ n →
    refS ts j f d s = if (regEnd ts d s).2 = true then ⟨(f : Int), ((j + (regEnd ts d s).1 : Nat) : Int)⟩ :: cutN n (ts.drop (regEnd ts d s).1) (j + (regEnd ts d s).1) else [] := by
  induction ts with
  | nil =>
    intro n j f d s _
    simp only [refS, regEnd, Nat.add_zero, List.drop_nil]
    cases n <;> simp [cutN]
  | cons t ts ih =>
    intro n j f d s hn
    simp only [List.length_cons] at hn
    simp only [refS]
    by_cases hm : (semis t.f0 && d == 0) = true
    · simp only [regEnd_semi hm, if_pos hm, if_true, List.drop_succ_cons, List.drop_zero]
      congr 1
      rw [ih (n - 1) (j + 1) (j + 1) 0 false (by omega)]
      obtain ⟨m, rfl⟩ : ∃ m, n = m + 1 := ⟨n - 1, by omega⟩
      simp only [cutN, Nat.add_sub_cancel]
      by_cases hts : ts = []
      · subst hts
        simp [regEnd]
      · rw [if_neg hts]
    · rw [if_neg hm, ih n (j + 1) f (depB d t.f0) (s || !triv t.f0) (by omega)]
      simp only [regEnd_go hm, List.drop_succ_cons, Nat.add_assoc, Nat.add_comm 1]

theorem refS_cut (l : List S25) : refS l 0 0 0 false = cutG l := by
  rw [refS_eq l l.length 0 0 0 false (Nat.le_refl _)]
  unfold cutG
  by_cases hne : l = []
  · subst hne
    simp [regEnd, cutN]
  · have h2 := regEnd_pos hne 0 false
    have h3 : 0 < l.length := List.length_pos_iff.2 hne
    obtain ⟨n, hn⟩ : ∃ n, l.length = n + 1 := ⟨l.length - 1, by omega⟩
    have e1 := cutN_more l.length n (l.drop (regEnd l 0 false).1) (0 + (regEnd l 0 false).1) (by simp only [List.length_drop]; omega) (by simp only [List.length_drop]; omega)
    rw [e1, hn]
    conv => rhs; unfold cutN
    rw [if_neg hne]

theorem refCut_l0 (l : List S25) (hl : l.length < 5864062014805) : ∀ (n j f d : Nat) (s : Bool) (out : List S30), l.length - j = n → j ≤ l.length → d ≤ j → out.length ≤ j →
    Ev (fun k => scholiastref04_Cut.l0 k l out (f : Int) (d : Int) s l (l.length : Int) (j : Int)) (out ++ refS (l.drop j) j f d s) := by
  intro n
  induction n with
  | zero =>
    intro j f d s out hn hj hd ho
    have e : j = l.length := by omega
    subst e
    refine Ev.step (fun k => scholiastref04_Cut.l0.eq_2 _ _ _ _ _ _ _ _ k) ?_
    refine ev_neg (by omega) ?_
    rw [List.drop_length]
    cases s with
    | true =>
      refine ev_pos rfl (ev_pos (by omega) ?_)
      exact Ev.now _
    | false =>
      refine ev_neg (by simp) ?_
      simp only [refS, Bool.false_eq_true, if_false, List.append_nil]
      exact Ev.now _
  | succ n ih =>
    intro j f d s out hn hj hd ho
    have hlt : j < l.length := by omega
    have hdrop : l.drop j = l[j] :: l.drop (j + 1) := List.drop_eq_getElem_cons hlt
    have hdl : depB d l[j].f0 ≤ j + 1 := by unfold depB; (repeat' split) <;> omega
    -- behind the test of the token: what the round goes on with
    have key : ∀ s', s' = (s || !triv l[j].f0) → Ev (fun k => if (d : Int) = 0 then (if l[j].f0 = 15 then (if out.length < 8796093022208 then (scholiastref04_Cut.l0 k l (out ++ [(⟨(f : Int), wrap64 ((j : Int) + 1)⟩ : S30)]) (wrap64 ((j : Int) + 1)) (d : Int) false l (l.length : Int) (wrap64 ((j : Int) + 1))) else (none)) else (if l[j].f0 = 16 then (if out.length < 8796093022208 then (scholiastref04_Cut.l0 k l (out ++ [(⟨(f : Int), wrap64 ((j : Int) + 1)⟩ : S30)]) (wrap64 ((j : Int) + 1)) (d : Int) false l (l.length : Int) (wrap64 ((j : Int) + 1))) else (none)) else ((scholiastref04_deeper.f k (d : Int) l[j].f0).bind fun t139 => (scholiastref04_Cut.l0 k l out (f : Int) t139 s' l (l.length : Int) (wrap64 ((j : Int) + 1)))))) else ((scholiastref04_deeper.f k (d : Int) l[j].f0).bind fun t140 => (scholiastref04_Cut.l0 k l out (f : Int) t140 s' l (l.length : Int) (wrap64 ((j : Int) + 1))))) (out ++ refS (l.drop j) j f d s) := by
      intro s' hs'
      rw [hdrop, wrap_next hlt (by omega)]
      have hdeep : ¬ (semis l[j].f0 && d == 0) = true → Ev (fun k => (scholiastref04_deeper.f k (d : Int) l[j].f0).bind fun t => (scholiastref04_Cut.l0 k l out (f : Int) t s' l (l.length : Int) ((j + 1 : Nat) : Int))) (out ++ refS (l[j] :: l.drop (j + 1)) j f d s) := by
        intro hm
        refine Ev.bind (deeper_ev d l[j].f0 (by omega)) ?_
        simp only [refS]
        rw [if_neg hm, ← hs']
        exact ih (j + 1) f (depB d l[j].f0) s' out (by omega) (by omega) hdl (by omega)
      have hsemi : semis l[j].f0 = true → d = 0 → Ev (fun k => if out.length < 8796093022208 then (scholiastref04_Cut.l0 k l (out ++ [(⟨(f : Int), ((j + 1 : Nat) : Int)⟩ : S30)]) ((j + 1 : Nat) : Int) (d : Int) false l (l.length : Int) ((j + 1 : Nat) : Int)) else none) (out ++ refS (l[j] :: l.drop (j + 1)) j f d s) := by
        intro hm hd0
        refine ev_pos (by omega) ?_
        simp only [refS]
        rw [if_pos (by simp [hm, hd0])]
        have := ih (j + 1) (j + 1) d false (out ++ [(⟨(f : Int), ((j + 1 : Nat) : Int)⟩ : S30)]) (by omega) (by omega) (by omega) (by simp; omega)
        rw [List.append_assoc, List.singleton_append, hd0] at this
        rw [hd0]
        exact this
      by_cases hd0 : d = 0
      · refine ev_pos (by omega) ?_
        by_cases h1 : l[j].f0 = 15
        · exact ev_pos h1 (hsemi (by simp [semis, h1]) hd0)
        · refine ev_neg h1 ?_
          by_cases h2 : l[j].f0 = 16
          · exact ev_pos h2 (hsemi (by simp [semis, h2]) hd0)
          · exact ev_neg h2 (hdeep (by simp [semis, h1, h2]))
      · exact ev_neg (by omega) (hdeep (by simp [hd0]))
    refine Ev.step (fun k => scholiastref04_Cut.l0.eq_2 _ _ _ _ _ _ _ _ k) ?_
    refine ev_pos (by omega) (ev_pos (by omega) (ev_pos (by omega) ?_))
    rw [rd25 hlt]
    cases s with
    | true => exact ev_pos rfl (key true (by simp))
    | false =>
      refine ev_neg (by simp) (ev_let (ref_trivia l[j].f0) ?_)
      exact key (!triv l[j].f0) (by simp)

/-- **The document's Cut: the regions.** -/
theorem refCut_ev (l : List S25) (hl : l.length < 5864062014805) : Ev (fun k => scholiastref04_Cut.f k l) (cutG l) := by
  have := refCut_l0 l hl l.length 0 0 0 false [] rfl (Nat.zero_le _) (Nat.le_refl _) (Nat.le_refl _)
  rw [List.drop_zero, List.nil_append, refS_cut] at this
  exact this

theorem cut_f {l : List S25} (hl : l.length < 5864062014805) : chunk_Cut.f l = some (cutG l) := if_pos hl

end Go.Proofs.Ytcejdokeaoklaaa.PChk
