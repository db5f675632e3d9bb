/-! Rising lists over a strict total order; what one reaches; an order of folders. No program in sight. -/
namespace Go.Proofs.YtcejdokeaoklaaaDoor.Imp
structure Ord {α : Type} (lt : α → α → Bool) : Prop where
  irr : ∀ a, lt a a = false
  tr : ∀ a b c, lt a b = true → lt b c = true → lt a c = true
  tot : ∀ a b, lt a b = false → lt b a = false → a = b
set_option linter.unusedSectionVars false
variable {α : Type} [DecidableEq α] {lt : α → α → Bool}
def Rising (lt : α → α → Bool) (l : List α) : Prop := l.Pairwise (fun a b => lt a b = true)
/-- A text is laid into a rising list, once. -/
def put (lt : α → α → Bool) (l : List α) (s : α) : List α := if s ∈ l then l else l.takeWhile (fun x => lt x s) ++ s :: l.dropWhile (fun x => lt x s)
theorem mem_put (l : List α) (s x : α) : x ∈ put lt l s ↔ x = s ∨ x ∈ l := by
  unfold put
  split
  · rename_i h
    exact ⟨fun hx => .inr hx, fun hx => hx.elim (fun e => e ▸ h) id⟩
  · have e : l.takeWhile (fun x => lt x s) ++ l.dropWhile (fun x => lt x s) = l := List.takeWhile_append_dropWhile
    constructor
    · intro hx
      rcases List.mem_append.1 hx with h | h
      · exact .inr (by rw [← e]; exact List.mem_append_left _ h)
      · rcases List.mem_cons.1 h with h | h
        · exact .inl h
        · exact .inr (by rw [← e]; exact List.mem_append_right _ h)
    · rintro (rfl | h)
      · simp
      · rw [← e] at h
        rcases List.mem_append.1 h with h | h
        · exact List.mem_append_left _ h
        · exact List.mem_append_right _ (List.mem_cons_of_mem _ h)
theorem Ord.asymm (O : Ord lt) {a b : α} (h : lt a b = true) : lt b a = false := by
  cases e : lt b a
  · rfl
  · have := O.tr a b a h e
    rw [O.irr] at this
    cases this
theorem Ord.lt_of (O : Ord lt) {a b : α} (h : lt a b = false) (hn : a ≠ b) : lt b a = true := by
  cases e : lt b a
  · exact absurd (O.tot a b h e) hn
  · rfl
theorem takeWhile_all {p : α → Bool} : ∀ {l : List α} {x : α}, x ∈ l.takeWhile p → p x = true
  | [], x, h => by simp at h
  | a :: l, x, h => by
    by_cases e : p a = true
    · rw [List.takeWhile_cons_of_pos e] at h
      rcases List.mem_cons.1 h with rfl | h
      · exact e
      · exact takeWhile_all h
    · rw [List.takeWhile_cons_of_neg e] at h
      simp at h
/-- In a rising list, what stands behind those ahead of s is not ahead of s. -/
theorem dropWhile_not (O : Ord lt) (s : α) : ∀ {l : List α}, Rising lt l → ∀ x ∈ l.dropWhile (fun x => lt x s), lt x s = false
  | [], _, x, h => by simp at h
  | a :: l, hr, x, h => by
    obtain ⟨h1, h2⟩ := List.pairwise_cons.1 hr
    by_cases e : lt a s = true
    · rw [List.dropWhile_cons_of_pos (p := fun x => lt x s) e] at h
      exact dropWhile_not O s h2 x h
    · rw [List.dropWhile_cons_of_neg (p := fun x => lt x s) e] at h
      have ea : lt a s = false := by simpa using e
      rcases List.mem_cons.1 h with rfl | h
      · exact ea
      · cases ex : lt x s
        · rfl
        · have := O.tr a x s (h1 x h) ex
          rw [ea] at this
          cases this
theorem rising_put (O : Ord lt) {l : List α} (h : Rising lt l) (s : α) : Rising lt (put lt l s) := by
  unfold put
  split
  · exact h
  · rename_i hs
    have e : l.takeWhile (fun x => lt x s) ++ l.dropWhile (fun x => lt x s) = l := List.takeWhile_append_dropWhile
    have hd := dropWhile_not O s h
    have hmem : ∀ x ∈ l.dropWhile (fun x => lt x s), x ∈ l := fun x hx => by rw [← e]; exact List.mem_append_right _ hx
    have h' := h
    unfold Rising at h' ⊢
    rw [← e, List.pairwise_append] at h'
    obtain ⟨p1, p2, p3⟩ := h'
    rw [List.pairwise_append, List.pairwise_cons]
    refine ⟨p1, ⟨fun x hx => O.lt_of (hd x hx) (fun ex => hs (ex ▸ hmem x hx)), p2⟩, fun a ha b hb => ?_⟩
    have hat : lt a s = true := takeWhile_all (p := fun x => lt x s) ha
    rcases List.mem_cons.1 hb with rfl | hb
    · exact hat
    · exact p3 a ha b hb
/-- Two rising lists with the same members are one. -/
theorem rising_ext (O : Ord lt) : ∀ {l m : List α}, Rising lt l → Rising lt m → (∀ x, x ∈ l ↔ x ∈ m) → l = m
  | [], [], _, _, _ => rfl
  | [], b :: s, _, _, h => by have := (h b).2 (by simp); simp at this
  | a :: r, [], _, _, h => by have := (h a).1 (by simp); simp at this
  | a :: r, b :: s, h1, h2, h => by
    obtain ⟨a1, a2⟩ := List.pairwise_cons.1 h1
    obtain ⟨b1, b2⟩ := List.pairwise_cons.1 h2
    have hab : a = b := by
      rcases List.mem_cons.1 ((h a).1 (by simp)) with e | ha
      · exact e
      · rcases List.mem_cons.1 ((h b).2 (by simp)) with e | hb
        · exact e.symm
        · have := O.tr _ _ _ (b1 a ha) (a1 b hb)
          rw [O.irr] at this
          cases this
    subst hab
    rw [rising_ext O a2 b2 (fun p => ⟨fun hp => by
      rcases List.mem_cons.1 ((h p).1 (by simp [hp])) with e | hp'
      · have := a1 p hp
        rw [e, O.irr] at this
        cases this
      · exact hp', fun hp => by
      rcases List.mem_cons.1 ((h p).2 (by simp [hp])) with e | hp'
      · have := b1 p hp
        rw [e, O.irr] at this
        cases this
      · exact hp'⟩)]
theorem rising_nodup (O : Ord lt) {l : List α} (h : Rising lt l) : l.Nodup :=
  List.Pairwise.imp (fun {a b} hab e => by subst e; rw [O.irr] at hab; cases hab) h
theorem put_length (l : List α) (s : α) : l.length ≤ (put lt l s).length := by
  unfold put
  split
  · exact Nat.le_refl _
  · have e : l.takeWhile (fun x => lt x s) ++ l.dropWhile (fun x => lt x s) = l := List.takeWhile_append_dropWhile
    have := congrArg List.length e
    rw [List.length_append] at this
    simp only [List.length_append, List.length_cons]
    omega
theorem put_mem {l : List α} {s : α} (h : s ∈ l) : put lt l s = l := if_pos h
theorem put_new {l : List α} {s : α} (h : s ∉ l) : (put lt l s).length = l.length + 1 := by
  unfold put
  rw [if_neg h]
  have e : l.takeWhile (fun x => lt x s) ++ l.dropWhile (fun x => lt x s) = l := List.takeWhile_append_dropWhile
  have := congrArg List.length e
  rw [List.length_append] at this
  simp only [List.length_append, List.length_cons]
  omega
/-- All of a list, laid into a rising one. -/
def puts (lt : α → α → Bool) (l : List α) (xs : List α) : List α := xs.foldl (put lt) l
theorem mem_puts (xs : List α) : ∀ (l : List α) (x : α), x ∈ puts lt l xs ↔ x ∈ l ∨ x ∈ xs := by
  induction xs with
  | nil => intro l x; simp [puts]
  | cons a xs ih =>
    intro l x
    show x ∈ puts lt (put lt l a) xs ↔ _
    rw [ih, mem_put, List.mem_cons]
    constructor
    · rintro ((h | h) | h)
      · exact .inr (.inl h)
      · exact .inl h
      · exact .inr (.inr h)
    · rintro (h | h | h)
      · exact .inl (.inr h)
      · exact .inl (.inl h)
      · exact .inr h
theorem rising_puts (O : Ord lt) (xs : List α) : ∀ {l : List α}, Rising lt l → Rising lt (puts lt l xs) := by
  induction xs with
  | nil => intro l h; exact h
  | cons a xs ih => intro l h; exact ih (rising_put O h a)
theorem puts_length (xs : List α) : ∀ (l : List α), l.length ≤ (puts lt l xs).length := by
  induction xs with
  | nil => intro l; exact Nat.le_refl _
  | cons a xs ih => intro l; exact Nat.le_trans (put_length l a) (ih _)
/-- Nothing came to it: all were there. -/
theorem puts_same (xs : List α) : ∀ (l : List α), (puts lt l xs).length = l.length → ∀ x ∈ xs, x ∈ l := by
  induction xs with
  | nil => intro l _ x hx; simp at hx
  | cons a xs ih =>
    intro l h x hx
    have h1 := put_length (lt := lt) l a
    have h2 := puts_length (lt := lt) xs (put lt l a)
    have h3 : (puts lt (put lt l a) xs).length = l.length := h
    have ha : a ∈ l := by
      apply Classical.byContradiction
      intro hn
      have := put_new (lt := lt) hn
      omega
    rcases List.mem_cons.1 hx with rfl | hx
    · exact ha
    · have e : put lt l a = l := put_mem ha
      rw [e] at h3
      exact ih l h3 x hx
/-! ### what one reaches -/
inductive Reach (E : α → α → Prop) : α → α → Prop where
  | one {a b : α} : E a b → Reach E a b
  | step {a b c : α} : Reach E a b → E b c → Reach E a c
theorem Reach.front {E : α → α → Prop} {a b c : α} (h : E a b) (r : Reach E b c) : Reach E a c := by
  induction r with
  | one h' => exact .step (.one h) h'
  | step _ h' ih => exact .step ih h'
theorem Reach.mono {E F : α → α → Prop} (h : ∀ a b, E a b → F a b) {a b : α} (r : Reach E a b) : Reach F a b := by
  induction r with
  | one h' => exact .one (h _ _ h')
  | step _ h' ih => exact .step ih (h _ _ h')
/-- What is closed, and holds the first steps, holds all that is reached. -/
theorem Reach.in_closed {E : α → α → Prop} {S : α → Prop} {a : α} (h1 : ∀ b, E a b → S b) (h2 : ∀ b c, S b → E b c → S c) {b : α} (r : Reach E a b) : S b := by
  induction r with
  | one h => exact h1 _ h
  | step _ h ih => exact h2 _ _ ih h
/-! ### an order -/
/-- Not yet placed, and all that it imports is. -/
def ready (all : List α) (edge : α → α → Bool) (done : List α) (f : α) : Bool := !done.contains f && all.all fun t => !edge f t || done.contains t
def order (all : List α) (edge : α → α → Bool) : Nat → List α → List α
  | 0, d => d
  | n + 1, d => match all.find? (ready all edge d) with
    | none => d
    | some f => order all edge n (d ++ [f])
/-- Each of a list stands behind all that it imports; no one stands twice; all are of 'all'. -/
def Placed (all : List α) (edge : α → α → Bool) (d : List α) : Prop := d.Nodup ∧ (∀ f ∈ d, f ∈ all) ∧ ∀ d1 f d2, d = d1 ++ f :: d2 → ∀ t ∈ all, edge f t = true → t ∈ d1
theorem Placed.snoc {all : List α} {edge : α → α → Bool} {d : List α} (h : Placed all edge d) {f : α} (hf : all.find? (ready all edge d) = some f) : Placed all edge (d ++ [f]) := by
  have hm : f ∈ all := List.mem_of_find?_eq_some hf
  have hr : ready all edge d f = true := List.find?_some hf
  unfold ready at hr
  simp only [Bool.and_eq_true, Bool.not_eq_true', List.all_eq_true, Bool.or_eq_true] at hr
  obtain ⟨h1, h2⟩ := hr
  have h1' : f ∉ d := by simpa using h1
  refine ⟨?_, ?_, ?_⟩
  · rw [List.nodup_append]
    refine ⟨h.1, by simp, ?_⟩
    intro a ha b hb
    simp at hb
    subst hb
    intro e
    exact h1' (e ▸ ha)
  · intro x hx
    rcases List.mem_append.1 hx with hx | hx
    · exact h.2.1 x hx
    · simp at hx; subst hx; exact hm
  · intro d1 g d2 e t ht hg
    rcases List.eq_nil_or_concat d2 with rfl | ⟨d3, z, rfl⟩
    · have e' : d ++ [f] = d1 ++ [g] := e
      obtain ⟨rfl, e2⟩ := List.append_inj' e' rfl
      simp at e2
      subst e2
      rcases h2 t ht with h3 | h3
      · rw [hg] at h3; cases h3
      · simpa using h3
    · have e' : d ++ [f] = (d1 ++ g :: d3) ++ [z] := by rw [e]; simp
      obtain ⟨rfl, _⟩ := List.append_inj' e' rfl
      exact h.2.2 d1 g d3 rfl t ht hg
theorem Placed.nil (all : List α) (edge : α → α → Bool) : Placed all edge [] := ⟨List.nodup_nil, fun f h => by simp at h, fun d1 f d2 e => by simp at e⟩
theorem order_placed {all : List α} {edge : α → α → Bool} : ∀ (n : Nat) (d : List α), Placed all edge d → Placed all edge (order all edge n d)
  | 0, d, h => h
  | n + 1, d, h => by
    unfold order
    split
    · exact h
    · rename_i f hf
      exact order_placed n _ (h.snoc hf)
theorem subset_length : ∀ {d all : List α}, d.Nodup → (∀ x ∈ d, x ∈ all) → d.length ≤ all.length
  | [], _, _, _ => Nat.zero_le _
  | a :: d, all, hn, hs => by
    obtain ⟨h1, h2⟩ := List.nodup_cons.1 hn
    have ha := hs a (by simp)
    have hsub : ∀ x ∈ d, x ∈ all.erase a := fun x hx => (List.mem_erase_of_ne (fun e => h1 (by rw [← e]; exact hx))).2 (hs x (by simp [hx]))
    have := subset_length h2 hsub
    rw [List.length_erase_of_mem ha] at this
    have hp := List.length_pos_of_mem ha
    simp
    omega
theorem Placed.length_le {all : List α} {edge : α → α → Bool} {d : List α} (h : Placed all edge d) : d.length ≤ all.length := subset_length h.1 h.2.1
/-- With as many rounds as there are folders nothing is ready at the end. -/
theorem order_done {all : List α} {edge : α → α → Bool} : ∀ (n : Nat) (d : List α), Placed all edge d → all.length ≤ d.length + n → all.find? (ready all edge (order all edge n d)) = none
  | 0, d, h, hn => by
    show all.find? (ready all edge d) = none
    cases e : all.find? (ready all edge d) with
    | none => rfl
    | some f =>
      have := (h.snoc e).length_le
      simp at this
      omega
  | n + 1, d, h, hn => by
    unfold order
    split
    · assumption
    · rename_i f hf
      exact order_done n _ (h.snoc hf) (by simp; omega)
/-- More rounds make no odds. -/
theorem order_stop {all : List α} {edge : α → α → Bool} {d : List α} (h : all.find? (ready all edge d) = none) : ∀ n, order all edge n d = d
  | 0 => rfl
  | n + 1 => by unfold order; rw [h]
def first (all : List α) (edge : α → α → Bool) : List α := order all edge all.length []
def second (all : List α) (edge : α → α → Bool) : List α := all.filter fun f => !(first all edge).contains f
theorem first_placed (all : List α) (edge : α → α → Bool) : Placed all edge (first all edge) := order_placed _ _ (Placed.nil all edge)
theorem first_done (all : List α) (edge : α → α → Bool) : all.find? (ready all edge (first all edge)) = none := order_done _ _ (Placed.nil all edge) (by simp)
/-- Who is not placed imports one that is not placed. -/
theorem stuck {all : List α} {edge : α → α → Bool} {f : α} (hf : f ∈ second all edge) : ∃ t, t ∈ second all edge ∧ edge f t = true := by
  unfold second at hf
  rw [List.mem_filter] at hf
  obtain ⟨h1, h2⟩ := hf
  have := List.find?_eq_none.1 (first_done all edge) f h1
  unfold ready at this
  rw [h2, Bool.true_and] at this
  have h3 : ¬ ∀ t ∈ all, (!edge f t || (first all edge).contains t) = true := fun hh => this (List.all_eq_true.2 hh)
  obtain ⟨t, ht⟩ := Classical.not_forall.1 h3
  obtain ⟨ht1, ht2⟩ := Classical.not_imp.1 ht
  simp only [Bool.or_eq_true, Bool.not_eq_true', not_or, Bool.not_eq_true, Bool.not_eq_false] at ht2
  refine ⟨t, ?_, ht2.1⟩
  unfold second
  rw [List.mem_filter]
  exact ⟨ht1, by rw [ht2.2]; rfl⟩
theorem Reach.trans {E : α → α → Prop} {a b c : α} (h : Reach E a b) (r : Reach E b c) : Reach E a c := by
  induction r with
  | one h' => exact .step h h'
  | step _ h' ih => exact .step ih h'
theorem Reach.flat {E : α → α → Prop} {a b : α} (r : Reach (Reach E) a b) : Reach E a b := by
  induction r with
  | one h => exact h
  | step _ h ih => exact ih.trans h
/-- Where each of a finite list that is not empty has one behind it, one comes back to itself. -/
theorem ring_of_stuck : ∀ (n : Nat) (E : α → α → Prop) (l : List α), l.length ≤ n → l ≠ [] → (∀ x ∈ l, ∃ y ∈ l, E x y) → ∃ x ∈ l, Reach E x x := by
  intro n
  induction n with
  | zero => intro E l hl hn _; exact absurd (List.length_eq_zero_iff.1 (by omega)) hn
  | succ n ih =>
    intro E l hl hn hs
    obtain ⟨a, ha⟩ := List.exists_mem_of_ne_nil l hn
    by_cases hr : Reach E a a
    · exact ⟨a, ha, hr⟩
    · have hmem : ∀ x, x ∈ l.filter (fun x => !decide (x = a)) ↔ x ∈ l ∧ x ≠ a := fun x => by simp [List.mem_filter]
      obtain ⟨y0, hy0, hE0⟩ := hs a ha
      have hy0a : y0 ≠ a := fun e => hr (.one (e ▸ hE0))
      have hne : l.filter (fun x => !decide (x = a)) ≠ [] := List.ne_nil_of_mem ((hmem y0).2 ⟨hy0, hy0a⟩)
      have hlt : (l.filter (fun x => !decide (x = a))).length < l.length := by
        apply Classical.byContradiction
        intro hge
        have h1 := List.length_filter_le (fun x => !decide (x = a)) l
        have h2 := List.length_filter_eq_length_iff.1 (show (l.filter (fun x => !decide (x = a))).length = l.length by omega) a ha
        simp at h2
      obtain ⟨x, hx, h⟩ := ih (Reach E) (l.filter (fun x => !decide (x = a))) (by omega) hne (fun x hx => by
        obtain ⟨y, hy, hE⟩ := hs x ((hmem x).1 hx).1
        by_cases e : y = a
        · subst e
          exact ⟨y0, (hmem y0).2 ⟨hy0, hy0a⟩, .step (.one hE) hE0⟩
        · exact ⟨y, (hmem y).2 ⟨hy, e⟩, .one hE⟩)
      exact ⟨x, ((hmem x).1 hx).1, h.flat⟩
/-- A ring is never placed. -/
theorem ring_not_placed {all : List α} {edge : α → α → Bool} {d : List α} (h : Placed all edge d) (hE : ∀ a b, edge a b = true → b ∈ all) {f : α} (hf : f ∈ d) : ¬ Reach (fun a b => edge a b = true) f f := by
  intro hr
  -- all that f reaches lies ahead of f
  obtain ⟨d1, d2, hd⟩ := List.append_of_mem hf
  have hn := h.1
  have key : ∀ b, Reach (fun a b => edge a b = true) f b → b ∈ d1 := by
    intro b hb
    refine hb.in_closed (S := fun b => b ∈ d1) (fun b hb => h.2.2 d1 f d2 hd b (hE _ _ hb) hb) ?_
    intro b c hb hbc
    obtain ⟨e1, e2, he⟩ := List.append_of_mem hb
    have : c ∈ e1 := h.2.2 e1 b (e2 ++ f :: d2) (by rw [hd, he]; simp) c (hE _ _ hbc) hbc
    rw [he]
    exact List.mem_append_left _ this
  have hfd := key f hr
  rw [hd, List.nodup_append] at hn
  exact hn.2.2 f hfd f (by simp) rfl
/-- Somebody is not placed just if somebody comes back to itself. -/
theorem second_ring {all : List α} {edge : α → α → Bool} (hE : ∀ a b, edge a b = true → a ∈ all ∧ b ∈ all) : second all edge ≠ [] ↔ ∃ f, Reach (fun a b => edge a b = true) f f := by
  constructor
  · intro h
    obtain ⟨x, _, hx⟩ := ring_of_stuck _ (fun a b => edge a b = true) _ (Nat.le_refl _) h (fun x hx => stuck hx)
    exact ⟨x, hx⟩
  · rintro ⟨f, hf⟩
    have hfa : f ∈ all := by
      cases hf with
      | one h => exact (hE _ _ h).1
      | step _ h => exact (hE _ _ h).2
    refine List.ne_nil_of_mem (a := f) ?_
    unfold second
    rw [List.mem_filter]
    refine ⟨hfa, ?_⟩
    cases e : (first all edge).contains f
    · rfl
    · exact absurd hf (ring_not_placed (first_placed all edge) (fun a b h => (hE a b h).2) (by simpa using e))
end Go.Proofs.YtcejdokeaoklaaaDoor.Imp
