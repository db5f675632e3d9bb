/-
  THE LAYER'S THEOREMS, plain: regions lie one behind the other and end with their semicolons; regions of two lists, one behind the other; what stands within a region.
-/
import Derived.Test.YtcejdokeaoklaaaChkLaws
namespace Go.Proofs.Ytcejdokeaoklaaa.PChk
open Go.RowKit Go.Proofs.YtcejdokeaoklaaaW.PrintWords Go.Proofs.YtcejdokeaoklaaaW.PrintLast Go.Proofs.YtcejdokeaoklaaaW.PrintMore

/-- Is there a significant token? -/
def wts (m : List S25) : Bool := m.any fun t => !triv t.f0
theorem wts_nil : wts [] = false := rfl
theorem wts_cons (t : S25) (m : List S25) : wts (t :: m) = (!triv t.f0 || wts m) := rfl
theorem wts_append (a b : List S25) : wts (a ++ b) = (wts a || wts b) := by simp [wts]
theorem wts_mem {m : List S25} {i : Nat} {t : S25} (h : m[i]? = some t) (ht : triv t.f0 = false) : wts m = true := by
  unfold wts
  rw [List.any_eq_true]
  exact ⟨t, List.mem_of_getElem? h, by simp [ht]⟩

theorem regEnd_fst (ts : List S25) : ∀ (d : Nat) (s s' : Bool), (regEnd ts d s).1 = (regEnd ts d s').1 := by
  induction ts with
  | nil => intro d s s'; rfl
  | cons t ts ih =>
    intro d s s'
    by_cases hm : (semis t.f0 && d == 0) = true
    · rw [regEnd_semi hm, regEnd_semi hm]
    · rw [regEnd_go hm, regEnd_go hm]
      simp only
      rw [ih _ (s || !triv t.f0) (s' || !triv t.f0)]

theorem regEnd_snd (ts : List S25) : ∀ (d : Nat) (s : Bool), (regEnd ts d s).2 = (s || wts (ts.take (regEnd ts d s).1)) := by
  induction ts with
  | nil => intro d s; simp [regEnd, wts]
  | cons t ts ih =>
    intro d s
    by_cases hm : (semis t.f0 && d == 0) = true
    · have hm' := hm
      simp only [Bool.and_eq_true, beq_iff_eq] at hm'
      rw [regEnd_semi hm]
      simp only [List.take_succ_cons, List.take_zero, wts_cons, (semis_sig hm'.1).1]
      simp
    · rw [regEnd_go hm]
      simp only [List.take_succ_cons, wts_cons]
      rw [ih, Bool.or_assoc]

theorem regEnd_early (ts : List S25) : ∀ (d : Nat) (s : Bool), (regEnd ts d s).1 < ts.length → ∃ t, ts[(regEnd ts d s).1 - 1]? = some t ∧ semis t.f0 = true := by
  induction ts with
  | nil => intro d s h; simp at h
  | cons t ts ih =>
    intro d s h
    by_cases hm : (semis t.f0 && d == 0) = true
    · rw [regEnd_semi hm]
      have hm' := hm
      simp only [Bool.and_eq_true, beq_iff_eq] at hm'
      exact ⟨t, rfl, hm'.1⟩
    · rw [regEnd_go hm] at h ⊢
      simp only [List.length_cons] at h ⊢
      have h1 : (regEnd ts (depB d t.f0) (s || !triv t.f0)).1 < ts.length := by omega
      obtain ⟨u, hu, hs⟩ := ih _ _ h1
      have h2 : ts ≠ [] := by intro e; rw [e] at h1; simp at h1
      have h3 := regEnd_pos h2 (depB d t.f0) (s || !triv t.f0)
      refine ⟨u, ?_, hs⟩
      obtain ⟨n, hn⟩ : ∃ n, (regEnd ts (depB d t.f0) (s || !triv t.f0)).1 = n + 1 := ⟨_, (Nat.succ_pred_eq_of_pos h3).symm⟩
      rw [hn] at hu ⊢
      simpa using hu

/-- A region that ended early is significant. -/
theorem regEnd_early_sig {ts : List S25} {d : Nat} {s : Bool} (h : (regEnd ts d s).1 < ts.length) : wts (ts.take (regEnd ts d s).1) = true := by
  obtain ⟨t, ht, hs⟩ := regEnd_early ts d s h
  have h2 : ts ≠ [] := by intro e; rw [e] at h; simp at h
  have h3 := regEnd_pos h2 d s
  refine wts_mem (i := (regEnd ts d s).1 - 1) (t := t) ?_ (semis_sig hs).1
  rw [List.getElem?_take, if_pos (by omega)]
  exact ht

theorem take_drop_len {α : Type} (l : List α) (o e : Nat) : (l.take e).drop o = (l.drop o).take (e - o) := by
  rw [List.drop_take]

/-- What stands at a place where a region begins: nothing significant any more; or a region, and what stands behind it. -/
theorem cutFrom_cases {l : List S25} {o : Nat} (ho : o ≤ l.length) :
    (cutFrom l o = [] ∧ wts (l.drop o) = false) ∨
    ∃ e, o < e ∧ e ≤ l.length ∧ cutFrom l o = ⟨(o : Int), (e : Int)⟩ :: cutFrom l e ∧ wts ((l.take e).drop o) = true ∧ (e < l.length → ∃ t, l[e - 1]? = some t ∧ semis t.f0 = true) := by
  by_cases hlt : o < l.length
  · have hne : l.drop o ≠ [] := by intro e; have := congrArg List.length e; simp at this; omega
    have hle := regEnd_le (l.drop o) 0 false
    have hpos := regEnd_pos hne 0 false
    rw [List.length_drop] at hle
    have hsnd := regEnd_snd (l.drop o) 0 false
    rw [Bool.false_or] at hsnd
    cases hs : (regEnd (l.drop o) 0 false).2 with
    | false =>
      refine .inl ⟨cutFrom_stop hs, ?_⟩
      by_cases he : (regEnd (l.drop o) 0 false).1 < (l.drop o).length
      · have := regEnd_early_sig he
        rw [← hsnd, hs] at this
        cases this
      · rw [hs, List.take_of_length_le (by omega)] at hsnd
        exact hsnd.symm
    | true =>
      refine .inr ⟨o + (regEnd (l.drop o) 0 false).1, by omega, by omega, cutFrom_step hlt hs, ?_, ?_⟩
      · rw [take_drop_len, show o + (regEnd (l.drop o) 0 false).1 - o = (regEnd (l.drop o) 0 false).1 by omega, ← hsnd, hs]
      · intro he
        obtain ⟨t, ht, hse⟩ := regEnd_early (l.drop o) 0 false (by rw [List.length_drop]; omega)
        rw [List.getElem?_drop] at ht
        exact ⟨t, by rw [← ht]; congr 1; omega, hse⟩
  · have e : o = l.length := by omega
    subst e
    exact .inl ⟨cutFrom_end (Nat.le_refl _), by rw [List.drop_length]; rfl⟩

/-! ### A list of tokens, gone through -/

/-- Regions that end within ts; where the one at hand began, its depth, whether it has a significant token. -/
def scan : List S25 → Nat → Nat → Nat → Bool → List S30 × Nat × Nat × Bool
  | [], _, f, d, s => ([], f, d, s)
  | t :: ts, j, f, d, s => if (semis t.f0 && d == 0) = true then (⟨(f : Int), ((j + 1 : Nat) : Int)⟩ :: (scan ts (j + 1) (j + 1) 0 false).1, (scan ts (j + 1) (j + 1) 0 false).2) else scan ts (j + 1) f (depB d t.f0) (s || !triv t.f0)

theorem refS_append (a b : List S25) : ∀ (j f d : Nat) (s : Bool), refS (a ++ b) j f d s = (scan a j f d s).1 ++ refS b (j + a.length) (scan a j f d s).2.1 (scan a j f d s).2.2.1 (scan a j f d s).2.2.2 := by
  induction a with
  | nil => intro j f d s; simp [scan]
  | cons t a ih =>
    intro j f d s
    simp only [List.cons_append, refS, scan, List.length_cons]
    by_cases hm : (semis t.f0 && d == 0) = true
    · simp only [if_pos hm]
      rw [ih, List.cons_append, show j + 1 + a.length = j + (a.length + 1) by omega]
    · simp only [if_neg hm]
      rw [ih, show j + 1 + a.length = j + (a.length + 1) by omega]

theorem cutG_append (a b : List S25) : cutG (a ++ b) = (scan a 0 0 0 false).1 ++ refS b a.length (scan a 0 0 0 false).2.1 (scan a 0 0 0 false).2.2.1 (scan a 0 0 0 false).2.2.2 := by
  rw [← refS_cut, refS_append, Nat.zero_add]

theorem scan_le (a : List S25) : ∀ (j f d : Nat) (s : Bool), f ≤ j → (scan a j f d s).2.1 ≤ j + a.length := by
  induction a with
  | nil => intro j f d s h; simpa [scan] using h
  | cons t a ih =>
    intro j f d s h
    simp only [scan, List.length_cons]
    by_cases hm : (semis t.f0 && d == 0) = true
    · simp only [if_pos hm]
      have := ih (j + 1) (j + 1) 0 false (Nat.le_refl _)
      omega
    · simp only [if_neg hm]
      have := ih (j + 1) f (depB d t.f0) (s || !triv t.f0) (by omega)
      omega

/-- A region that has just begun is fresh. -/
theorem scan_fresh (a : List S25) : ∀ (j f d : Nat) (s : Bool), f ≤ j → (f = j → d = 0 ∧ s = false) → (scan a j f d s).2.1 = j + a.length → (scan a j f d s).2.2.1 = 0 ∧ (scan a j f d s).2.2.2 = false := by
  induction a with
  | nil => intro j f d s _ h0 h; simp only [scan, List.length_nil, Nat.add_zero] at h ⊢; exact h0 h
  | cons t a ih =>
    intro j f d s hf h0 h
    simp only [scan, List.length_cons] at h ⊢
    by_cases hm : (semis t.f0 && d == 0) = true
    · simp only [if_pos hm] at h ⊢
      exact ih (j + 1) (j + 1) 0 false (Nat.le_refl _) (fun _ => ⟨rfl, rfl⟩) (by omega)
    · simp only [if_neg hm] at h ⊢
      exact ih (j + 1) f (depB d t.f0) (s || !triv t.f0) (by omega) (fun e => by omega) (by omega)

/-- The region at hand begins where the last one ended. -/
theorem scan_last (a : List S25) : ∀ (j f d : Nat) (s : Bool), ∀ x, (scan a j f d s).1.getLast? = some x → x.f1 = ((scan a j f d s).2.1 : Int) := by
  induction a with
  | nil => intro j f d s x h; simp [scan] at h
  | cons t a ih =>
    intro j f d s x h
    simp only [scan] at h ⊢
    by_cases hm : (semis t.f0 && d == 0) = true
    · simp only [if_pos hm] at h ⊢
      cases hc : (scan a (j + 1) (j + 1) 0 false).1 with
      | nil =>
        rw [hc] at h
        simp only [List.getLast?_singleton, Option.some.injEq] at h
        subst h
        -- nothing ended behind it: it begins where this one ends
        have : ∀ (a : List S25) (j f d : Nat) (s : Bool), (scan a j f d s).1 = [] → (scan a j f d s).2.1 = f := by
          intro a
          induction a with
          | nil => intro j f d s _; rfl
          | cons t a ih =>
            intro j f d s h
            simp only [scan] at h ⊢
            by_cases hm : (semis t.f0 && d == 0) = true
            · simp only [if_pos hm] at h; cases h
            · simp only [if_neg hm] at h ⊢; exact ih _ _ _ _ h
        rw [this a (j + 1) (j + 1) 0 false hc]
      | cons y ys =>
        rw [hc, List.getLast?_cons_cons, ← hc] at h
        exact ih _ _ _ _ x h
    · simp only [if_neg hm] at h ⊢
      exact ih _ _ _ _ x h

/-- All that ended, ended by where the one at hand begins. -/
theorem scan_ends (a : List S25) : ∀ (j f d : Nat) (s : Bool), f ≤ j → ∀ x ∈ (scan a j f d s).1, x.f1 ≤ ((scan a j f d s).2.1 : Int) := by
  have hbase : ∀ (a : List S25) (j f d : Nat) (s : Bool), f ≤ j → f ≤ (scan a j f d s).2.1 := by
    intro a
    induction a with
    | nil => intro j f d s _; exact Nat.le_refl _
    | cons t a ih =>
      intro j f d s h
      simp only [scan]
      by_cases hm : (semis t.f0 && d == 0) = true
      · simp only [if_pos hm]; have := ih (j + 1) (j + 1) 0 false (Nat.le_refl _); omega
      · simp only [if_neg hm]; exact ih _ _ _ _ (by omega)
  induction a with
  | nil => intro j f d s _ x h; simp [scan] at h
  | cons t a ih =>
    intro j f d s hf x h
    simp only [scan] at h ⊢
    by_cases hm : (semis t.f0 && d == 0) = true
    · simp only [if_pos hm, List.mem_cons] at h ⊢
      rcases h with rfl | h
      · have := hbase a (j + 1) (j + 1) 0 false (Nat.le_refl _)
        simp only
        omega
      · exact ih _ _ _ _ (Nat.le_refl _) x h
    · simp only [if_neg hm] at h ⊢
      exact ih _ _ _ _ (by omega) x h

/-- Whether the region at hand has a significant token. -/
theorem scan_sig (p a : List S25) : ∀ (f d : Nat) (s : Bool), f ≤ p.length → s = wts (p.drop f) → (scan a p.length f d s).2.2.2 = wts ((p ++ a).drop (scan a p.length f d s).2.1) := by
  induction a generalizing p with
  | nil => intro f d s _ h; simpa [scan] using h
  | cons t a ih =>
    intro f d s hf h
    simp only [scan]
    have hpa : p ++ t :: a = (p ++ [t]) ++ a := by simp
    have hpl : (p ++ [t]).length = p.length + 1 := by simp
    by_cases hm : (semis t.f0 && d == 0) = true
    · simp only [if_pos hm]
      rw [hpa]
      have := ih (p ++ [t]) (p.length + 1) 0 false (by omega) (by rw [← hpl, List.drop_length]; rfl)
      rw [hpl] at this
      exact this
    · simp only [if_neg hm]
      rw [hpa]
      have := ih (p ++ [t]) f (depB d t.f0) (s || !triv t.f0) (by omega) (by rw [List.drop_append_of_le_length hf, wts_append, h, wts_cons, wts_nil, Bool.or_false])
      rw [hpl] at this
      exact this

/-- Tokens that bear nothing. -/
def plainT (t : S25) : Prop := opens t.f0 = false ∧ closes t.f0 = false ∧ semis t.f0 = false
theorem scan_plain (m : List S25) : ∀ (j f d : Nat) (s : Bool), (∀ t ∈ m, plainT t) → scan m j f d s = ([], f, d, s || wts m) := by
  induction m with
  | nil => intro j f d s _; simp [scan, wts]
  | cons t m ih =>
    intro j f d s h
    obtain ⟨h1, h2, h3⟩ := h t (List.mem_cons_self ..)
    simp only [scan]
    rw [if_neg (by simp [h3]), ih _ _ _ _ (fun t ht => h t (List.mem_cons_of_mem _ ht))]
    simp only [depB, h1, h2, wts_cons, Bool.or_assoc]
    simp

/-! ### Moved regions -/
def moved (c : Int) (x : S30) : S30 := ⟨x.f0 + c, x.f1 + c⟩
theorem cutN_moved (c : Nat) (n : Nat) : ∀ (ts : List S25) (o : Nat), cutN n ts (o + c) = (cutN n ts o).map (moved c) := by
  induction n with
  | zero => intro ts o; rfl
  | succ n ih =>
    intro ts o
    simp only [cutN]
    split
    · rfl
    · split
      · rw [List.map_cons, ← ih, show o + c + (regEnd ts 0 false).1 = o + (regEnd ts 0 false).1 + c by omega]
        rfl
      · rfl
theorem refS_fresh (b : List S25) (n : Nat) : refS b n n 0 false = (cutG b).map (moved n) := by
  rw [refS_eq b b.length n n 0 false (Nat.le_refl _), ← refS_cut, refS_eq b b.length 0 0 0 false (Nat.le_refl _)]
  split
  · rw [List.map_cons]
    congr 1
    · simp only [moved, S30.mk.injEq]
      constructor <;> omega
    · rw [Nat.add_comm n, cutN_moved]; simp
  · rfl

/-- **Regions of two lists, one behind the other, where the first ends with a region's end.** -/
theorem cutG_joins {a b : List S25} (hlast : ∃ x, (cutG a).getLast? = some x ∧ x.f1 = (a.length : Int)) (hend : (cutG (a ++ [(⟨10, 0, 0⟩ : S25)])).length = (cutG a).length + 1) : cutG (a ++ b) = cutG a ++ (cutG b).map (moved a.length) := by
  obtain ⟨out, hout⟩ : ∃ out, out = (scan a 0 0 0 false).1 := ⟨_, rfl⟩
  obtain ⟨f, hf⟩ : ∃ f, f = (scan a 0 0 0 false).2.1 := ⟨_, rfl⟩
  obtain ⟨d, hd⟩ : ∃ d, d = (scan a 0 0 0 false).2.2.1 := ⟨_, rfl⟩
  obtain ⟨s, hs⟩ : ∃ s, s = (scan a 0 0 0 false).2.2.2 := ⟨_, rfl⟩
  have h0 := cutG_append a []
  have h1 := cutG_append a [(⟨10, 0, 0⟩ : S25)]
  have h2 := cutG_append a b
  rw [← hout, ← hf, ← hd, ← hs] at h0 h1 h2
  rw [List.append_nil] at h0
  have hp : refS [(⟨10, 0, 0⟩ : S25)] a.length f d s = [⟨(f : Int), ((a.length + 1 : Nat) : Int)⟩] := by
    simp only [refS]
    rw [if_neg (by simp [semis]), show (s || !triv 10) = true by simp [triv]]
    rfl
  rw [hp] at h1
  rw [h1] at hend
  cases s with
  | true =>
    rw [h0] at hend
    simp [refS] at hend
  | false =>
    simp only [refS, Bool.false_eq_true, if_false, List.append_nil] at h0
    obtain ⟨x, hx, hx1⟩ := hlast
    rw [h0, hout] at hx
    have hfe := scan_last a 0 0 0 false x hx
    rw [← hf, hx1] at hfe
    have hfa : f = a.length := by omega
    obtain ⟨hd0, _⟩ := scan_fresh a 0 0 0 false (Nat.le_refl _) (fun _ => ⟨rfl, rfl⟩) (by rw [← hf, hfa]; omega)
    rw [← hd] at hd0
    rw [h2, h0, hfa, hd0, refS_fresh]

end Go.Proofs.Ytcejdokeaoklaaa.PChk
