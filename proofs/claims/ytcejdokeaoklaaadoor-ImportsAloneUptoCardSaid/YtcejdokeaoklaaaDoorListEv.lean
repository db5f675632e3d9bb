import Derived.Test.YtcejdokeaoklaaaDoorFold
import Derived.Test.YtcejdokeaoklaaaDoorPImpx8
/-! PLAIN LAWS: lists of strings: the same, has, put; the document's Folders. -/
namespace Go.Proofs.YtcejdokeaoklaaaDoor.PImp
open Go.RowKit Go.Proofs.YtcejdokeaoklaaaDoorW.PrintWords Go.Proofs.YtcejdokeaoklaaaDoorW.PrintLast Go.Proofs.YtcejdokeaoklaaaDoorW.PrintMore
open Go.Proofs.YtcejdokeaoklaaaDoor.Imp
instance decMem (s : ByteArray) (l : List ByteArray) : Decidable (s ∈ l) := @List.instDecidableMemOfLawfulBEq _ instBEqOfDecidableEq inferInstance s l
theorem toList_inj {a b : ByteArray} : a.toList = b.toList ↔ a = b := by
  rw [toList_data, toList_data]
  exact ⟨bytes_ext, fun h => by rw [h]⟩
theorem same_l0 (a b : List ByteArray) (hab : a.length = b.length) (hl : a.length < 1073741824) : ∀ n j, a.length - j = n → j ≤ a.length → Ev (fun k => scholiastlaw13_sameTexts.l0 k a b (j : Int)) (decide (a.drop j = b.drop j)) := by
  intro n
  induction n with
  | zero =>
    intro j hn hj
    have e : j = a.length := by omega
    subst e
    refine Ev.step (fun k => scholiastlaw13_sameTexts.l0.eq_2 _ _ _ k) ?_
    refine ev_neg (by omega) ?_
    rw [List.drop_length, show b.drop a.length = [] by rw [hab]; exact List.drop_length]
    exact Ev.now _
  | succ n ih =>
    intro j hn hj
    have hlt : j < a.length := by omega
    have hlt2 : j < b.length := by omega
    refine Ev.step (fun k => scholiastlaw13_sameTexts.l0.eq_2 _ _ _ k) ?_
    refine ev_pos (by omega) (ev_pos (by omega) (ev_pos (by omega) ?_))
    rw [rdOf_get hlt, rdOf_get hlt2, List.drop_eq_getElem_cons hlt, List.drop_eq_getElem_cons hlt2, wrap_next hlt (by omega)]
    by_cases h : a[j] = b[j]
    · refine ev_pos (toList_inj.2 h) ?_
      have := ih (j + 1) (by omega) (by omega)
      rw [show decide (a[j] :: a.drop (j + 1) = b[j] :: b.drop (j + 1)) = decide (a.drop (j + 1) = b.drop (j + 1)) from decide_eq_decide.2 (by rw [List.cons.injEq]; simp only [h, true_and])]
      exact this
    · refine ev_neg (fun e => h (toList_inj.1 e)) ?_
      rw [show decide (a[j] :: a.drop (j + 1) = b[j] :: b.drop (j + 1)) = false from decide_eq_false (by rw [List.cons.injEq]; intro e; exact h e.1)]
      exact Ev.now _
/-- Are two lists of strings the same? -/
theorem same_ev (a b : List ByteArray) (hl : a.length < 1073741824) : Ev (fun k => scholiastlaw13_sameTexts.f k a b) (decide (a = b)) := by
  unfold scholiastlaw13_sameTexts.f
  by_cases h : a.length = b.length
  · exact ev_pos (by omega) (by simpa using same_l0 a b h hl a.length 0 rfl (Nat.zero_le _))
  · refine ev_neg (by omega) ?_
    rw [show decide (a = b) = false by simp; intro e; exact h (by rw [e])]
    exact Ev.now _
theorem has_l0 (l : List ByteArray) (s : ByteArray) (hl : l.length < 1073741824) : ∀ n j, l.length - j = n → j ≤ l.length → Ev (fun k => scholiastref13_has.l0 k l s (j : Int)) (decide (s ∈ l.drop j)) := by
  intro n
  induction n with
  | zero =>
    intro j hn hj
    refine Ev.step (fun k => scholiastref13_has.l0.eq_2 _ _ _ k) ?_
    refine ev_neg (by omega) ?_
    rw [List.drop_of_length_le (by omega)]
    simp only [List.not_mem_nil, decide_false]
    exact Ev.now _
  | succ n ih =>
    intro j hn hj
    have hlt : j < l.length := by omega
    refine Ev.step (fun k => scholiastref13_has.l0.eq_2 _ _ _ k) ?_
    refine ev_pos (by omega) (ev_pos (by omega) ?_)
    rw [rdOf_get hlt, List.drop_eq_getElem_cons hlt, wrap_next hlt (by omega)]
    by_cases h : l[j] = s
    · refine ev_pos (toList_inj.2 h) ?_
      rw [decide_eq_true (by rw [h]; simp)]
      exact Ev.now _
    · refine ev_neg (fun e => h (toList_inj.1 e)) ?_
      have := ih (j + 1) (by omega) (by omega)
      rw [show decide (s ∈ l[j] :: l.drop (j + 1)) = decide (s ∈ l.drop (j + 1)) from decide_eq_decide.2 (by rw [List.mem_cons]; exact ⟨fun e => e.resolve_left (fun e => h e.symm), .inr⟩)]
      exact this
/-- Does a list have a string? -/
theorem has_ev (l : List ByteArray) (s : ByteArray) (hl : l.length < 1073741824) : Ev (fun k => scholiastref13_has.f k l s) (decide (s ∈ l)) := by
  have := has_l0 l s hl l.length 0 rfl (Nat.zero_le _)
  rw [List.drop_zero] at this
  exact this
theorem takeWhile_stop {α : Type} {p : α → Bool} : ∀ {l : List α} {i : Nat}, (∀ x ∈ l.take i, p x = true) → (∀ h : i < l.length, p l[i] = false) → l.takeWhile p = l.take i ∧ l.dropWhile p = l.drop i
  | [], i, _, _ => by simp
  | a :: l, 0, _, h2 => by
    have : p a = false := h2 (by simp)
    simp [this]
  | a :: l, i + 1, h1, h2 => by
    have ha : p a = true := h1 a (by simp)
    have := takeWhile_stop (l := l) (i := i) (fun x hx => h1 x (by simp [hx])) (fun h => h2 (by simp; omega))
    simp [ha, this]
theorem put_l0 (l : List ByteArray) (s : ByteArray) (hs : s ∉ l) (hl : l.length < 1073741824) : ∀ n j, l.length - j = n → j ≤ l.length → (∀ x ∈ l.take j, ltS x s = true) → Ev (fun k => scholiastref13_put.l0 k l s (l.take j) (j : Int)) (put ltS l s) := by
  intro n
  have hend : ∀ j, (∀ x ∈ l.take j, ltS x s = true) → (∀ h : j < l.length, ltS l[j] s = false) → l.take j ++ [s] ++ l.drop j = put ltS l s := by
    intro j h1 h2
    have ⟨e1, e2⟩ := takeWhile_stop (p := fun x => ltS x s) h1 h2
    unfold put
    rw [if_neg hs, e1, e2]
    simp
  induction n with
  | zero =>
    intro j hn hj hlt
    refine Ev.step (fun k => scholiastref13_put.l0.eq_2 _ _ _ _ k) ?_
    have hlen : (l.take j).length = j := by rw [List.length_take]; omega
    refine ev_neg (by omega) (ev_pos (by omega) ?_)
    simp only [Option.bind_some, Int.toNat_natCast]
    refine ev_pos (by omega) (ev_pos (by omega) (ev_pos (by simp only [List.length_append, List.length_singleton, List.length_drop, hlen]; omega) ?_))
    rw [hend j hlt (fun h => by omega)]
    exact Ev.now _
  | succ n ih =>
    intro j hn hj hlt
    have hjl : j < l.length := by omega
    have hlen : (l.take j).length = j := by rw [List.length_take]; omega
    refine Ev.step (fun k => scholiastref13_put.l0.eq_2 _ _ _ _ k) ?_
    refine ev_pos (by omega) (ev_pos (by omega) ?_)
    rw [rdOf_get hjl, wrap_next hjl (by omega)]
    by_cases h : ltS l[j] s = true
    · refine ev_pos h (ev_pos (by omega) ?_)
      rw [← List.take_succ_eq_append_getElem hjl]
      refine ih (j + 1) (by omega) (by omega) (fun x hx => ?_)
      rw [List.take_succ_eq_append_getElem hjl, List.mem_append, List.mem_singleton] at hx
      rcases hx with hx | rfl
      · exact hlt x hx
      · exact h
    · refine ev_neg h (ev_pos (by omega) ?_)
      simp only [Option.bind_some, Int.toNat_natCast]
      refine ev_pos (by omega) (ev_pos (by simp only [List.length_append, List.length_singleton, List.length_drop, hlen]; omega) ?_)
      rw [hend j hlt (fun _ => by simpa using h)]
      exact Ev.now _
/-- Laid into a rising list, once. -/
theorem put_ev (l : List ByteArray) (s : ByteArray) (hl : l.length < 1073741824) : Ev (fun k => scholiastref13_put.f k l s) (put ltS l s) := by
  unfold scholiastref13_put.f
  refine Ev.bind (has_ev l s hl) ?_
  by_cases h : s ∈ l
  · refine ev_pos (decide_eq_true h) ?_
    rw [put_mem h]
    exact Ev.now _
  · refine ev_neg (by simp [h]) ?_
    exact put_l0 l s h hl l.length 0 rfl (Nat.zero_le _) (by simp)
theorem puts_append (l xs ys : List ByteArray) : puts ltS l (xs ++ ys) = puts ltS (puts ltS l xs) ys := List.foldl_append
theorem foldersF_next {l : List ByteArray} {i : Nat} (h : i < l.length) : foldersF (l.take (i + 1)) = if okN l[i] = true then put ltS (foldersF (l.take i)) (folderF l[i]) else foldersF (l.take i) := by
  unfold foldersF
  rw [rawF_next h, puts_append]
  by_cases ho : okN l[i] = true
  · rw [if_pos ho, if_pos ho]
    rfl
  · rw [if_neg ho, if_neg ho]
    rfl
theorem puts_length_le (l xs : List ByteArray) : (puts ltS l xs).length ≤ l.length + xs.length := by
  induction xs generalizing l with
  | nil => simp [puts]
  | cons a xs ih =>
    have h1 := ih (put ltS l a)
    have h2 : (put ltS l a).length ≤ l.length + 1 := by
      by_cases h : a ∈ l
      · rw [put_mem h]; omega
      · rw [put_new h]; omega
    show (puts ltS (put ltS l a) xs).length ≤ _
    rw [List.length_cons]
    omega
theorem foldersF_length (l : List ByteArray) : (foldersF l).length ≤ l.length := by
  have h1 := puts_length_le [] (rawF l)
  have h2 := rawF_length l
  unfold foldersF
  simp at h1
  omega
theorem ref_Folders_l0 (l : List ByteArray) (hl : l.length < 1048577) (hs : ∀ s ∈ l, s.size < 1048577) : ∀ n j, l.length - j = n → j ≤ l.length → Ev (fun k => scholiastref13_Folders.l0 k l (foldersF (l.take j)) (j : Int)) (foldersF l) := by
  intro n
  induction n with
  | zero =>
    intro j hn hj
    refine Ev.step (fun k => scholiastref13_Folders.l0.eq_2 _ _ _ k) ?_
    refine ev_neg (by omega) ?_
    rw [List.take_of_length_le (by omega)]
    exact Ev.now _
  | succ n ih =>
    intro j hn hj
    have hjl : j < l.length := by omega
    have hnext := ih (j + 1) (by omega) (by omega)
    rw [foldersF_next hjl] at hnext
    have hfl := foldersF_length (l.take j)
    rw [List.length_take] at hfl
    refine Ev.step (fun k => scholiastref13_Folders.l0.eq_2 _ _ _ k) ?_
    refine ev_pos (by omega) (ev_pos (by omega) ?_)
    rw [rdOf_get hjl, wrap_next hjl (by omega)]
    refine Ev.bind (ref_Split_ev _ (hs _ (List.getElem_mem hjl))) ?_
    by_cases ho : okN l[j] = true
    · rw [if_pos ho] at hnext
      refine ev_pos ((splitF_err _).2 ho) (Ev.bind (put_ev _ _ (by omega)) hnext)
    · rw [if_neg ho] at hnext
      exact ev_neg (fun h => ho ((splitF_err _).1 h)) hnext
/-- The document's folders of names. -/
theorem ref_Folders_ev (l : List ByteArray) (hl : l.length < 1048577) (hs : ∀ s ∈ l, s.size < 1048577) : Ev (fun k => scholiastref13_Folders.f k l) (foldersF l) :=
  ref_Folders_l0 l hl hs l.length 0 rfl (Nat.zero_le _)
end Go.Proofs.YtcejdokeaoklaaaDoor.PImp
