import Derived.Test.YtcejdokeaoklaaaDoorGraphs
import Derived.Test.YtcejdokeaoklaaaDoorPImpx12
import Derived.Test.YtcejdokeaoklaaaDoorPImpx14
import Derived.Test.YtcejdokeaoklaaaDoorOpens
import Derived.Test.YtcejdokeaoklaaaDoorPImpx9
import Derived.Test.YtcejdokeaoklaaaDoorPImpx10
/-! PLAIN LAWS: the document's right, imports, Order, reaches, Needs. -/
set_option linter.unusedVariables false
set_option linter.unusedSectionVars false
namespace Go.Proofs.YtcejdokeaoklaaaDoor.PImp
open Go.RowKit Go.Proofs.YtcejdokeaoklaaaDoorW.PrintWords Go.Proofs.YtcejdokeaoklaaaDoorW.PrintLast Go.Proofs.YtcejdokeaoklaaaDoorW.PrintMore
open Go.Proofs.YtcejdokeaoklaaaDoor.Imp
/-! ### right -/
theorem right_l1 (l : List ByteArray) (hl : l.length < 1048577) : ∀ n i, l.length - i = n → 1 ≤ i → (∀ j (hj : j + 1 < l.length), j + 1 < i → ltS l[j] l[j + 1] = true) → Ev (fun k => rf_right.l1 k l (i : Int)) (if risingB l = true then 0 else 1) := by
  intro n
  induction n with
  | zero =>
    intro i hn hi hA
    refine Ev.step (fun k => rf_right.l1.eq_2 _ _ k) (ev_neg (by omega) ?_)
    rw [if_pos (risingB_get (fun j hj => hA j hj (by omega)))]
    exact Ev.now _
  | succ n ih =>
    intro i hn hi hA
    obtain ⟨m, rfl⟩ : ∃ m, i = m + 1 := ⟨i - 1, by omega⟩
    have hil : m + 1 < l.length := by omega
    refine Ev.step (fun k => rf_right.l1.eq_2 _ _ k) ?_
    rw [wrap_next hil (by omega), wrap_id (x := ((m + 1 : Nat) : Int) - 1) (by omega) (by omega), show ((m + 1 : Nat) : Int) - 1 = (m : Int) by omega]
    refine ev_pos (by omega) (ev_pos (by omega) (ev_pos (by omega) (ev_pos (by omega) ?_)))
    rw [rdOf_get hil, rdOf_get (show m < l.length by omega)]
    cases h : ltS l[m] l[m + 1]
    · refine ev_neg (fun h' => by rw [show Op.bytesLess _ _ = false from h] at h'; cases h') ?_
      rw [if_neg (by rw [risingB_not hil h]; decide)]
      exact Ev.now _
    · refine ev_pos h (ih (m + 1 + 1) (by omega) (by omega) (fun j hj hlt => ?_))
      by_cases e : j = m
      · subst e; exact h
      · exact hA j hj (by omega)
theorem right_l0 (l0 : List ByteArray) (l1 : List S46) (he : l0.length = l1.length) (hl : l0.length < 1048577) (hs : ∀ s ∈ l0, s.size < 1048577) : ∀ n i, l0.length - i = n → i ≤ l0.length → (∀ s ∈ l0.take i, okN s = true) → Ev (fun k => rf_right.l0 k l0 (i : Int)) (rightF l0 l1) := by
  intro n
  induction n with
  | zero =>
    intro i hn hi hA
    rw [List.take_of_length_le (by omega)] at hA
    refine Ev.step (fun k => rf_right.l0.eq_2 _ _ k) (ev_neg (by omega) ?_)
    have := right_l1 l0 hl _ 1 rfl (Nat.le_refl _) (fun j _ h => by omega)
    unfold rightF
    rw [if_neg (fun h => h he), if_neg (by rw [List.all_eq_true.2 hA]; decide)]
    exact this
  | succ n ih =>
    intro i hn hi hA
    have hil : i < l0.length := by omega
    refine Ev.step (fun k => rf_right.l0.eq_2 _ _ k) ?_
    rw [wrap_next hil (by omega)]
    refine ev_pos (by omega) (ev_pos (by omega) ?_)
    rw [rdOf_get hil]
    refine Ev.bind (ref_Split_ev _ (hs _ (List.getElem_mem hil))) ?_
    cases ho : okN l0[i]
    · refine ev_neg (fun h => by rw [(splitF_err _).1 h] at ho; cases ho) ?_
      rw [splitF_no ho, rightF_bad he hil ho]
      exact Ev.now _
    · refine ev_pos ((splitF_err _).2 ho) (ih (i + 1) (by omega) (by omega) (fun s h => ?_))
      rw [List.take_succ_eq_append_getElem hil, List.mem_append, List.mem_singleton] at h
      exact h.elim (hA s) (fun e => by rw [e]; exact ho)
theorem right_ev (l0 : List ByteArray) (l1 : List S46) (hl : l0.length < 1048577) (hs : ∀ s ∈ l0, s.size < 1048577) : Ev (fun k => rf_right.f k l0 l1) (rightF l0 l1) := by
  unfold rf_right.f
  by_cases h : l0.length = l1.length
  · exact ev_pos (by omega) (right_l0 l0 l1 h hl hs l0.length 0 rfl (Nat.zero_le _) (by simp))
  · refine ev_neg (by omega) ?_
    rw [rightF_one h]
    exact Ev.now _
/-! ### imports -/
def sel (F : List ByteArray) (f : ByteArray) (E : List (ByteArray × ByteArray)) : List ByteArray := (E.filter fun q => decide (q.1 = f) && decide (q.2 ∈ F)).map (·.2)
/-- The folders that one imports. -/
def impF (l0 : List ByteArray) (l1 : List S46) (f : ByteArray) : List ByteArray := puts ltS [] (sel (foldersF l0) f (allPairs (l0.zip l1)))
theorem sel_append (F : List ByteArray) (f : ByteArray) (E E' : List (ByteArray × ByteArray)) : sel F f (E ++ E') = sel F f E ++ sel F f E' := by
  unfold sel
  rw [List.filter_append, List.map_append]
theorem sel_other {F : List ByteArray} {f : ByteArray} {p : ByteArray × S46} (h : folderF p.1 ≠ f) : sel F f (pairsOf p) = [] := by
  unfold sel pairsOf
  rw [List.map_eq_nil_iff, List.filter_eq_nil_iff]
  intro q hq
  obtain ⟨m, _, rfl⟩ := List.mem_map.1 hq
  simp [h]
theorem impF_rising (l0 : List ByteArray) (l1 : List S46) (f : ByteArray) : Rising ltS (impF l0 l1 f) := rising_puts ordS _ List.Pairwise.nil
theorem mem_impF (l0 : List ByteArray) (l1 : List S46) (f t : ByteArray) : t ∈ impF l0 l1 f ↔ edgeF l0 l1 f t = true := by
  unfold impF edgeF edgeE sel
  rw [mem_puts]
  simp only [List.not_mem_nil, false_or, List.mem_map, List.mem_filter, Bool.and_eq_true, decide_eq_true_eq]
  constructor
  · rintro ⟨⟨a, b⟩, ⟨h1, h2, h3⟩, rfl⟩
    simp only at h2 h3
    subst h2
    exact ⟨h1, h3⟩
  · rintro ⟨h1, h2⟩
    exact ⟨(f, t), ⟨h1, rfl, h2⟩, rfl⟩
theorem impF_in (l0 : List ByteArray) (l1 : List S46) (f : ByteArray) : ∀ t ∈ impF l0 l1 f, t ∈ foldersF l0 := fun t h => edgeF_in f t ((mem_impF l0 l1 f t).1 h)
theorem impF_length (l0 : List ByteArray) (l1 : List S46) (f : ByteArray) : (impF l0 l1 f).length ≤ l0.length := Nat.le_trans (subset_length (rising_nodup ordS (impF_rising l0 l1 f)) (impF_in l0 l1 f)) (foldersF_length l0)
theorem puts_len (l xs : List ByteArray) (h : l.length + xs.length < 1073741824) : (puts ltS l xs).length < 1073741824 := by
  have := puts_length_le l xs
  omega
theorem sel_length (F : List ByteArray) (f : ByteArray) (E : List (ByteArray × ByteArray)) : (sel F f E).length ≤ E.length := by
  unfold sel
  rw [List.length_map]
  exact List.length_filter_le _ _
section
variable {l0 : List ByteArray} {l1 : List S46} (hS : Small l0 l1) (he : l0.length = l1.length)
include hS he
theorem imports_l1 (f : ByteArray) {i : Nat} (hi : i < l0.length) {r : List ByteArray} (hf : folderF l0[i] = f)
    (hend : Ev (fun k => rf_imports.l0 k l0 l1 f (foldersF l0) (puts ltS [] (sel (foldersF l0) f (allPairs ((l0.zip l1).take (i + 1))))) ((i + 1 : Nat) : Int)) r) :
    ∀ n j, (l1[i]'(by omega)).f1.length - j = n → j ≤ (l1[i]'(by omega)).f1.length → Ev (fun k => rf_imports.l1 k l0 l1 f (foldersF l0) (puts ltS [] (sel (foldersF l0) f (allPairs ((l0.zip l1).take i) ++ (pairsOf (l0[i], l1[i]'(by omega))).take j))) (i : Int) (folderF l0[i]) (j : Int)) r := by
  intro n
  have hi1 : i < l1.length := by omega
  have hzl : i < (l0.zip l1).length := by rw [List.length_zip]; omega
  have hzi : (l0.zip l1)[i] = (l0[i], l1[i]) := List.getElem_zip
  have hle := allPairs_le hzl
  have hpl : (pairsOf (l0[i], l1[i])).length = l1[i].f1.length := List.length_map ..
  have hT := hS.2.2.2
  have hL := hS.1
  rw [hzi, hpl] at hle
  induction n with
  | zero =>
    intro j hn hj
    have ej : (pairsOf (l0[i], l1[i])).take j = pairsOf (l0[i], l1[i]) := List.take_of_length_le (by omega)
    rw [ej, ← hzi, ← allPairs_next hzl]
    refine Ev.step (fun k => rf_imports.l1.eq_2 _ _ _ _ _ _ _ _ k) ?_
    refine ev_pos (by omega) (ev_pos (by omega) ?_)
    rw [rd46 hi1]
    refine ev_neg (by omega) (Ev.step (fun k => rf_imports.j2.eq_2 _ _ _ _ _ _ _ _ _ k) (ev_neg (by decide) ?_))
    rw [wrap_next hi (by omega)]
    exact hend
  | succ n ih =>
    intro j hn hj
    have hjl : j < l1[i].f1.length := by omega
    have hnext := ih (j + 1) (by omega) (by omega)
    have hps : (pairsOf (l0[i], l1[i])).take (j + 1) = (pairsOf (l0[i], l1[i])).take j ++ [(folderF l0[i], l1[i].f1[j].f1)] := by
      rw [List.take_succ_eq_append_getElem (by omega)]
      congr 2
      exact List.getElem_map ..
    rw [hps, ← List.append_assoc, sel_append, puts_append] at hnext
    have hacc : (puts ltS [] (sel (foldersF l0) f (allPairs ((l0.zip l1).take i) ++ (pairsOf (l0[i], l1[i])).take j))).length < 1073741824 := by
      refine puts_len _ _ ?_
      have := sel_length (foldersF l0) f (allPairs ((l0.zip l1).take i) ++ (pairsOf (l0[i], l1[i])).take j)
      rw [List.length_append, List.length_take] at this
      simp only [List.length_nil]
      omega
    refine Ev.step (fun k => rf_imports.l1.eq_2 _ _ _ _ _ _ _ _ k) ?_
    refine ev_pos (by omega) (ev_pos (by omega) ?_)
    rw [rd46 hi1]
    refine ev_pos (by omega) (Ev.step (fun k => rf_imports.j2.eq_2 _ _ _ _ _ _ _ _ _ k) (ev_pos (by rw [hf]; simp) ?_))
    refine ev_pos (by omega) (ev_pos (by omega) ?_)
    rw [rd46 hi1]
    refine ev_pos (by omega) (ev_pos (by omega) ?_)
    rw [rd48 hjl, wrap_next hjl (by omega)]
    have hfl := foldersF_length l0
    refine Ev.bind (has_ev _ _ (by omega)) ?_
    by_cases hin : l1[i].f1[j].f1 ∈ foldersF l0
    · refine ev_pos (decide_eq_true hin) (Ev.bind (put_ev _ _ hacc) ?_)
      have e : sel (foldersF l0) f [(folderF l0[i], l1[i].f1[j].f1)] = [l1[i].f1[j].f1] := by
        unfold sel
        rw [List.filter_cons_of_pos (by simp [hf, hin])]
        rfl
      rw [e] at hnext
      exact hnext
    · refine ev_neg (by simp [hin]) ?_
      have e : sel (foldersF l0) f [(folderF l0[i], l1[i].f1[j].f1)] = [] := by
        unfold sel
        rw [List.filter_cons_of_neg (by simp [hin])]
        rfl
      rw [e] at hnext
      exact hnext
theorem imports_l0 (f : ByteArray) : ∀ n i, l0.length - i = n → i ≤ l0.length → Ev (fun k => rf_imports.l0 k l0 l1 f (foldersF l0) (puts ltS [] (sel (foldersF l0) f (allPairs ((l0.zip l1).take i)))) (i : Int)) (impF l0 l1 f) := by
  intro n
  have hL := hS.1
  induction n with
  | zero =>
    intro i hn hi
    refine Ev.step (fun k => rf_imports.l0.eq_2 _ _ _ _ _ _ k) (ev_neg (by omega) ?_)
    rw [List.take_of_length_le (by rw [List.length_zip]; omega)]
    exact Ev.now _
  | succ n ih =>
    intro i hn hi
    have hil : i < l0.length := by omega
    have hi1 : i < l1.length := by omega
    have hnext := ih (i + 1) (by omega) (by omega)
    refine Ev.step (fun k => rf_imports.l0.eq_2 _ _ _ _ _ _ k) ?_
    refine ev_pos (by omega) (ev_pos (by omega) ?_)
    rw [rdOf_get hil]
    refine Ev.bind (ref_Split_ev _ (hS.2.1 _ (List.getElem_mem hil))) ?_
    by_cases hf : folderF l0[i] = f
    · have := imports_l1 hS he f hil hf hnext _ 0 rfl (Nat.zero_le _)
      rw [List.take_zero, List.append_nil] at this
      exact this
    · have hzl : i < (l0.zip l1).length := by rw [List.length_zip]; omega
      have hzi : (l0.zip l1)[i] = (l0[i], l1[i]) := List.getElem_zip
      rw [allPairs_next hzl, hzi, sel_append, sel_other hf, List.append_nil] at hnext
      refine Ev.step (fun k => rf_imports.l1.eq_2 _ _ _ _ _ _ _ _ k) ?_
      refine ev_pos (by omega) (ev_pos (by omega) ?_)
      rw [rd46 hi1]
      have hbe : ((splitF l0[i]).1.toList == f.toList) = false := beq_eq_false_iff_ne.2 (fun e => hf (toList_inj.1 e))
      rw [hbe]
      by_cases h0 : ((0 : Nat) : Int) < (l1[i].f1.length : Int)
      · refine ev_pos h0 (Ev.step (fun k => rf_imports.j2.eq_2 _ _ _ _ _ _ _ _ _ k) (ev_neg (by decide) ?_))
        rw [wrap_next hil (by omega)]
        exact hnext
      · refine ev_neg h0 (Ev.step (fun k => rf_imports.j2.eq_2 _ _ _ _ _ _ _ _ _ k) (ev_neg (by decide) ?_))
        rw [wrap_next hil (by omega)]
        exact hnext
theorem imports_ev (f : ByteArray) : Ev (fun k => rf_imports.f k l0 l1 f) (impF l0 l1 f) := by
  unfold rf_imports.f
  refine Ev.bind (ref_Folders_ev l0 hS.1 hS.2.1) ?_
  have := imports_l0 hS he f _ 0 rfl (Nat.zero_le _)
  rw [List.take_zero] at this
  exact this
/-! ### Order -/
theorem order_l2 (d : List ByteArray) {i : Nat} (hi : i < (foldersF l0).length) {r : List ByteArray × List ByteArray × Int} (hd : d.length < 1048577) (m : List ByteArray) (hm : m.length < 1048577)
    (hyes : Ev (fun k => rf_Order.l1 k l0 l1 (foldersF l0) d (foldersF l0)[i] ((i + 1 : Nat) : Int)) r ∨ True) :
    ∀ n j (b : Bool), m.length - j = n → j ≤ m.length →
      ((b && (m.drop j).all fun t => decide (t ∈ d)) = true → Ev (fun k => rf_Order.l1 k l0 l1 (foldersF l0) d (foldersF l0)[i] ((i + 1 : Nat) : Int)) r) →
      ((b && (m.drop j).all fun t => decide (t ∈ d)) = false → Ev (fun k => rf_Order.l1 k l0 l1 (foldersF l0) d ⟨#[]⟩ ((i + 1 : Nat) : Int)) r) →
      Ev (fun k => rf_Order.l2 k l0 l1 (foldersF l0) d ⟨#[]⟩ (i : Int) b m (j : Int)) r := by
  intro n
  have hfl := foldersF_length l0
  have hL := hS.1
  induction n with
  | zero =>
    intro j b hn hj h1 h2
    rw [List.drop_of_length_le (by omega), List.all_nil, Bool.and_true] at h1 h2
    refine Ev.step (fun k => rf_Order.l2.eq_2 _ _ _ _ _ _ _ _ _ k) (ev_neg (by omega) ?_)
    rw [wrap_next hi (by omega), rdOf_get hi]
    cases b
    · exact ev_neg (by decide) (h2 rfl)
    · exact ev_pos rfl (ev_pos (by omega) (ev_pos (by omega) (h1 rfl)))
  | succ n ih =>
    intro j b hn hj h1 h2
    have hjl : j < m.length := by omega
    rw [List.drop_eq_getElem_cons hjl, List.all_cons, ← Bool.and_assoc] at h1 h2
    refine Ev.step (fun k => rf_Order.l2.eq_2 _ _ _ _ _ _ _ _ _ k) (ev_pos (by omega) ?_)
    rw [wrap_next hjl (by omega)]
    cases b
    · exact ev_neg (by decide) (ih (j + 1) false (by omega) (by omega) h1 h2)
    · refine ev_pos rfl (ev_pos (by omega) ?_)
      rw [rdOf_get hjl]
      exact Ev.bind (has_ev _ _ (by omega)) (ih (j + 1) _ (by omega) (by omega) (by simpa using h1) (by simpa using h2))
theorem folder_ne {x : ByteArray} (hx : x ∈ foldersF l0) : x.toList ≠ [] := by
  obtain ⟨s, _, ho, rfl⟩ := (mem_foldersF l0 x).1 hx
  obtain ⟨pre, suf, e, hp, _, hne⟩ := okName_cut ho
  rw [toList_data]
  unfold folderF splitF
  rw [if_pos (show okName s.data.toList = true from ho), extract_list, List.drop_zero, ← hp, e]
  simpa using hne
theorem ready_imp (d : List ByteArray) (f : ByteArray) : ready (foldersF l0) (edgeF l0 l1) d f = ((!decide (f ∈ d)) && (impF l0 l1 f).all fun t => decide (t ∈ d)) := by
  unfold ready
  rw [contains_dec]
  congr 1
  rw [Bool.eq_iff_iff, List.all_eq_true, List.all_eq_true]
  constructor
  · intro h t ht
    have he' := (mem_impF l0 l1 f t).1 ht
    have := h t (impF_in l0 l1 f t ht)
    rw [he', contains_dec] at this
    exact this
  · intro h t ht
    cases e : edgeF l0 l1 f t
    · rfl
    · rw [contains_dec]
      exact h t ((mem_impF l0 l1 f t).2 e)
theorem order_l3 (d : List ByteArray) (hd : d.length < 1048577) : ∀ n i, (foldersF l0).length - i = n → i ≤ (foldersF l0).length → Ev (fun k => rf_Order.l3 k (foldersF l0) d (leftF ((foldersF l0).take i) d) (i : Int)) (d, leftF (foldersF l0) d, (0 : Int)) := by
  intro n
  have hfl := foldersF_length l0
  have hL := hS.1
  induction n with
  | zero =>
    intro i hn hi
    refine Ev.step (fun k => rf_Order.l3.eq_2 _ _ _ _ k) (ev_neg (by omega) ?_)
    rw [List.take_of_length_le (by omega)]
    exact Ev.now _
  | succ n ih =>
    intro i hn hi
    have hil : i < (foldersF l0).length := by omega
    have hnext := ih (i + 1) (by omega) (by omega)
    have hlf : (leftF ((foldersF l0).take i) d).length ≤ i := by
      have := List.length_filter_le (fun f => !decide (f ∈ d)) ((foldersF l0).take i)
      rw [List.length_take] at this
      unfold leftF
      omega
    have hs : leftF ((foldersF l0).take (i + 1)) d = leftF ((foldersF l0).take i) d ++ (if (foldersF l0)[i] ∈ d then [] else [(foldersF l0)[i]]) := by
      rw [List.take_succ_eq_append_getElem hil]
      unfold leftF
      rw [List.filter_append]
      congr 1
      by_cases h : (foldersF l0)[i] ∈ d
      · rw [if_pos h, List.filter_cons_of_neg (by simp [h])]
        rfl
      · rw [if_neg h, List.filter_cons_of_pos (by simp [h])]
        rfl
    rw [hs] at hnext
    refine Ev.step (fun k => rf_Order.l3.eq_2 _ _ _ _ k) (ev_pos (by omega) (ev_pos (by omega) ?_))
    rw [rdOf_get hil, wrap_next hil (by omega)]
    refine Ev.bind (has_ev _ _ (by omega)) ?_
    by_cases h : (foldersF l0)[i] ∈ d
    · rw [if_pos h, List.append_nil] at hnext
      exact ev_pos (decide_eq_true h) hnext
    · rw [if_neg h] at hnext
      exact ev_neg (by simp [h]) (ev_pos (by omega) hnext)
theorem order_l0 : ∀ n (d : List ByteArray), (foldersF l0).length - d.length = n → Going (foldersF l0) (edgeF l0 l1) d → Ev (fun k => rf_Order.l0 k l0 l1 (foldersF l0) d) (first (foldersF l0) (edgeF l0 l1), second (foldersF l0) (edgeF l0 l1), (0 : Int)) := by
  intro n
  have hfl := foldersF_length l0
  have hL := hS.1
  induction n using Nat.strongRecOn with
  | ind n ihn =>
    intro d hn hgo
    have hdl := hgo.placed.length_le
    refine Ev.step (fun k => rf_Order.l0.eq_2 _ _ _ _ k) ?_
    -- the scan from i on: nobody ahead of i is ready
    have scan : ∀ a i, (foldersF l0).length - i = a → i ≤ (foldersF l0).length → (∀ f ∈ (foldersF l0).take i, ready (foldersF l0) (edgeF l0 l1) d f = false) →
        Ev (fun k => rf_Order.l1 k l0 l1 (foldersF l0) d ⟨#[]⟩ (i : Int)) (first (foldersF l0) (edgeF l0 l1), second (foldersF l0) (edgeF l0 l1), (0 : Int)) := by
      intro a
      induction a with
      | zero =>
        intro i ha hi hA
        rw [List.take_of_length_le (by omega)] at hA
        have hd : d = first (foldersF l0) (edgeF l0 l1) := hgo.stop (fun f hf => hA f ((mem_leftF).1 hf).1)
        refine Ev.step (fun k => rf_Order.l1.eq_2 _ _ _ _ _ _ k) (ev_neg (by omega) (Ev.step (fun k => rf_Order.j2.eq_2 _ _ _ _ _ _ _ k) (ev_neg (by decide) (ev_pos (by rw [toList_data]) ?_))))
        have := order_l3 hS he d (by omega) _ 0 rfl (Nat.zero_le _)
        rw [leftF_second, ← hd]
        exact this
      | succ a iha =>
        intro i ha hi hA
        have hil : i < (foldersF l0).length := by omega
        refine Ev.step (fun k => rf_Order.l1.eq_2 _ _ _ _ _ _ k) (ev_pos (by omega) (Ev.step (fun k => rf_Order.j2.eq_2 _ _ _ _ _ _ _ k) (ev_pos (by rw [toList_data]; rfl) (ev_pos (by omega) (ev_pos (by omega) ?_)))))
        rw [rdOf_get hil]
        refine Ev.bind (has_ev _ _ (by omega)) (Ev.bind (imports_ev hS he _) ?_)
        have hil2 := impF_length l0 l1 (foldersF l0)[i]
        refine order_l2 hS he d hil (by omega) _ (by omega) (.inr trivial) _ 0 _ rfl (Nat.zero_le _) (fun h => ?_) (fun h => ?_)
        · rw [List.drop_zero, ← ready_imp hS he] at h
          -- it is found
          have hmem : (foldersF l0)[i] ∈ foldersF l0 := List.getElem_mem hil
          have hne := folder_ne hS he hmem
          have hfind := find_at hil hA h
          have hp := hgo.placed.snoc hfind
          have hpl := hp.length_le
          rw [List.length_append, List.length_singleton] at hpl
          have hgo2 : Going (foldersF l0) (edgeF l0 l1) (d ++ [(foldersF l0)[i]]) := by
            refine ⟨hp, ?_⟩
            rw [List.length_append, List.length_singleton]
            obtain ⟨k, hk⟩ : ∃ k, (foldersF l0).length - d.length = k + 1 := ⟨(foldersF l0).length - d.length - 1, by omega⟩
            have hr := hgo.rest
            rw [hk] at hr
            unfold order at hr
            rw [hfind] at hr
            rw [hr, show (foldersF l0).length - (d.length + 1) = k by omega]
          have hrec := ihn _ (by rw [List.length_append, List.length_singleton]; omega) (d ++ [(foldersF l0)[i]]) rfl hgo2
          have hj : Ev (fun k => rf_Order.j2 k l0 l1 (foldersF l0) d (foldersF l0)[i] ((i + 1 : Nat) : Int) false) (first (foldersF l0) (edgeF l0 l1), second (foldersF l0) (edgeF l0 l1), (0 : Int)) :=
            Ev.step (fun k => rf_Order.j2.eq_2 _ _ _ _ _ _ _ k) (ev_neg (by decide) (ev_neg hne (ev_pos (by omega) hrec)))
          refine Ev.step (fun k => rf_Order.l1.eq_2 _ _ _ _ _ _ k) ?_
          rw [show ((foldersF l0)[i].toList == ([] : List UInt8)) = false by simpa using hne]
          by_cases hc : ((i + 1 : Nat) : Int) < ((foldersF l0).length : Int)
          · exact ev_pos hc hj
          · exact ev_neg hc hj
        · rw [List.drop_zero, ← ready_imp hS he] at h
          refine iha (i + 1) (by omega) (by omega) (fun f hf => ?_)
          rw [List.take_succ_eq_append_getElem hil, List.mem_append, List.mem_singleton] at hf
          exact hf.elim (hA f) (fun e => by rw [e]; exact h)
    exact scan _ 0 rfl (Nat.zero_le _) (by simp)
/-! ### reaches -/
theorem reaches_l2 (cur x : List ByteArray) (i : Nat) (hx : x.length < 1048577) {r : List ByteArray} (hi : i < cur.length) (hc : cur.length < 1048577) (acc : List ByteArray) (hacc : acc.length + x.length < 1073741824) (hend : Ev (fun k => rf_reaches.l1 k l0 l1 cur (puts ltS acc x) ((i + 1 : Nat) : Int)) r) :
    ∀ n j, x.length - j = n → j ≤ x.length → Ev (fun k => rf_reaches.l2 k l0 l1 cur (puts ltS acc (x.take j)) (i : Int) x (j : Int)) r := by
  intro n
  induction n with
  | zero =>
    intro j hn hj
    refine Ev.step (fun k => rf_reaches.l2.eq_2 _ _ _ _ _ _ _ k) (ev_neg (by omega) ?_)
    rw [List.take_of_length_le (by omega), wrap_next hi (by omega)]
    exact hend
  | succ n ih =>
    intro j hn hj
    have hjl : j < x.length := by omega
    have hnext := ih (j + 1) (by omega) (by omega)
    rw [List.take_succ_eq_append_getElem hjl, puts_append] at hnext
    refine Ev.step (fun k => rf_reaches.l2.eq_2 _ _ _ _ _ _ _ k) (ev_pos (by omega) (ev_pos (by omega) ?_))
    rw [rdOf_get hjl, wrap_next hjl (by omega)]
    have hl := puts_length_le acc (x.take j)
    rw [List.length_take] at hl
    exact Ev.bind (put_ev _ _ (by omega)) hnext
/-- One round: all that those of cur import, laid in. -/
def grow1 (l0 : List ByteArray) (l1 : List S46) (cur : List ByteArray) (acc : List ByteArray) (i : Nat) : List ByteArray := ((cur.drop i).map (impF l0 l1)).foldl (puts ltS) acc
theorem reaches_l1 (cur : List ByteArray) (hc : cur.length ≤ (foldersF l0).length) {r : List ByteArray} (hend : ∀ more, more = grow1 l0 l1 cur cur 0 → Ev (fun k => if (more.length : Int) = (cur.length : Int) then some cur else rf_reaches.l0 k l0 l1 more) r) :
    ∀ n i (acc : List ByteArray), cur.length - i = n → i ≤ cur.length → acc.length ≤ (foldersF l0).length → (∀ x ∈ acc, x ∈ foldersF l0) → acc.Nodup → Rising ltS acc → grow1 l0 l1 cur acc i = grow1 l0 l1 cur cur 0 → Ev (fun k => rf_reaches.l1 k l0 l1 cur acc (i : Int)) r := by
  intro n
  have hfl := foldersF_length l0
  have hL := hS.1
  induction n with
  | zero =>
    intro i acc hn hi ha hin hnd hr hg
    refine Ev.step (fun k => rf_reaches.l1.eq_2 _ _ _ _ _ k) (ev_neg (by omega) ?_)
    have : acc = grow1 l0 l1 cur cur 0 := by
      rw [← hg]
      unfold grow1
      rw [List.drop_of_length_le (by omega)]
      rfl
    exact hend acc this
  | succ n ih =>
    intro i acc hn hi ha hin hnd hr hg
    have hil : i < cur.length := by omega
    have hil2 := impF_length l0 l1 cur[i]
    have hr2 := rising_puts ordS (impF l0 l1 cur[i]) hr
    have hin2 : ∀ x ∈ puts ltS acc (impF l0 l1 cur[i]), x ∈ foldersF l0 := fun x hx => ((mem_puts _ _ _).1 hx).elim (hin x) (impF_in l0 l1 _ x)
    have hg2 : grow1 l0 l1 cur (puts ltS acc (impF l0 l1 cur[i])) (i + 1) = grow1 l0 l1 cur cur 0 := by
      rw [← hg]
      unfold grow1
      rw [List.drop_eq_getElem_cons hil]
      rfl
    have hnext := ih (i + 1) _ (by omega) (by omega) (subset_length (rising_nodup ordS hr2) hin2) hin2 (rising_nodup ordS hr2) hr2 hg2
    refine Ev.step (fun k => rf_reaches.l1.eq_2 _ _ _ _ _ k) (ev_pos (by omega) (ev_pos (by omega) ?_))
    rw [rdOf_get hil]
    refine Ev.bind (imports_ev hS he _) ?_
    have := reaches_l2 hS he cur (impF l0 l1 cur[i]) i (by omega) hil (by omega) acc (by omega) hnext _ 0 rfl (Nat.zero_le _)
    rw [List.take_zero] at this
    exact this
theorem mem_grow1 (cur : List ByteArray) (t : ByteArray) : ∀ (xs acc : List ByteArray), t ∈ ((xs.map (impF l0 l1)).foldl (puts ltS) acc) ↔ t ∈ acc ∨ ∃ x ∈ xs, edgeF l0 l1 x t = true := by
  intro xs
  induction xs with
  | nil => intro acc; simp
  | cons x xs ih =>
    intro acc
    rw [List.map_cons, List.foldl_cons, ih, mem_puts, mem_impF]
    simp only [List.mem_cons, exists_eq_or_imp]
    constructor
    · rintro ((h | h) | h)
      · exact .inl h
      · exact .inr (.inl h)
      · exact .inr (.inr h)
    · rintro (h | h | h)
      · exact .inl (.inl h)
      · exact .inl (.inr h)
      · exact .inr h
theorem grow1_length (xs : List ByteArray) : ∀ acc : List ByteArray, acc.length ≤ ((xs.map (impF l0 l1)).foldl (puts ltS) acc).length := by
  induction xs with
  | nil => intro acc; exact Nat.le_refl _
  | cons x xs ih => intro acc; exact Nat.le_trans (puts_length _ _) (ih _)
theorem grow1_rising (xs : List ByteArray) : ∀ acc : List ByteArray, Rising ltS acc → Rising ltS ((xs.map (impF l0 l1)).foldl (puts ltS) acc) := by
  induction xs with
  | nil => intro acc h; exact h
  | cons x xs ih => intro acc h; exact ih _ (rising_puts ordS _ h)
theorem same_of_length {l m : List ByteArray} (hl : Rising ltS l) (hm : Rising ltS m) (hs : ∀ x ∈ l, x ∈ m) (he : m.length ≤ l.length) : ∀ x ∈ m, x ∈ l := by
  intro x hx
  apply Classical.byContradiction
  intro hn
  have h1 : (x :: l).Nodup := List.nodup_cons.2 ⟨hn, rising_nodup ordS hl⟩
  have := subset_length h1 (fun y hy => (List.mem_cons.1 hy).elim (fun e => by rw [e]; exact hx) (hs y))
  simp at this
  omega
/-- Whom one reaches. -/
def IsReach (l0 : List ByteArray) (l1 : List S46) (p : ByteArray) (S : List ByteArray) : Prop := S.length < 1048577 ∧ ∀ s, s ∈ S ↔ Imp.Reach (fun a b => edgeF l0 l1 a b = true) p s
theorem reaches_l0 (p : ByteArray) : ∀ n (cur : List ByteArray), (foldersF l0).length - cur.length = n → Rising ltS cur → (∀ x ∈ cur, Imp.Reach (fun a b => edgeF l0 l1 a b = true) p x) → (∀ x, edgeF l0 l1 p x = true → x ∈ cur) →
    ∃ S, IsReach l0 l1 p S ∧ Ev (fun k => rf_reaches.l0 k l0 l1 cur) S := by
  intro n
  have hfl := foldersF_length l0
  have hL := hS.1
  induction n using Nat.strongRecOn with
  | ind n ihn =>
    intro cur hn hr h1 h2
    have hin : ∀ x ∈ cur, x ∈ foldersF l0 := fun x hx => by
      cases h1 x hx with
      | one h => exact edgeF_in _ _ h
      | step _ h => exact edgeF_in _ _ h
    have hcl := subset_length (rising_nodup ordS hr) hin
    have hmem := mem_grow1 hS he cur (xs := cur) (acc := cur)
    have hgl := grow1_length hS he cur cur
    have hgr := grow1_rising hS he cur cur hr
    have hg0 : grow1 l0 l1 cur cur 0 = (cur.map (impF l0 l1)).foldl (puts ltS) cur := rfl
    by_cases hlen : (grow1 l0 l1 cur cur 0).length = cur.length
    · refine ⟨cur, ⟨by omega, fun s => ⟨h1 s, fun hs => ?_⟩⟩, ?_⟩
      · refine hs.in_closed (S := fun s => s ∈ cur) h2 (fun b c hb hbc => ?_)
        refine same_of_length hS he hr hgr (fun x hx => (hmem x).2 (.inl hx)) (by rw [← hg0]; omega) c ((hmem c).2 (.inr ⟨b, hb, hbc⟩))
      · refine Ev.step (fun k => rf_reaches.l0.eq_2 _ _ _ k) ?_
        exact reaches_l1 hS he cur hcl (fun more hm => by
          rw [hm]
          exact ev_pos (by omega) (Ev.now _)) _ 0 cur rfl (Nat.zero_le _) hcl hin (rising_nodup ordS hr) hr rfl
    · have hgin : ∀ x ∈ grow1 l0 l1 cur cur 0, x ∈ foldersF l0 := fun x hx => ((hmem x).1 hx).elim (hin x) (fun ⟨y, _, hy⟩ => edgeF_in _ _ hy)
      have hgl2 := subset_length (rising_nodup ordS hgr) hgin
      obtain ⟨S, hS1, hS2⟩ := ihn ((foldersF l0).length - (grow1 l0 l1 cur cur 0).length) (by rw [hg0] at hlen ⊢; omega) (grow1 l0 l1 cur cur 0) rfl hgr (fun x hx => ((hmem x).1 hx).elim (h1 x) (fun ⟨y, hy1, hy2⟩ => .step (h1 y hy1) hy2)) (fun x hx => (hmem x).2 (.inl (h2 x hx)))
      refine ⟨S, hS1, ?_⟩
      refine Ev.step (fun k => rf_reaches.l0.eq_2 _ _ _ k) ?_
      exact reaches_l1 hS he cur hcl (fun more hm => by
        rw [hm]
        exact ev_neg (by omega) hS2) _ 0 cur rfl (Nat.zero_le _) hcl hin (rising_nodup ordS hr) hr rfl
theorem reaches_ev (p : ByteArray) : ∃ S, IsReach l0 l1 p S ∧ Ev (fun k => rf_reaches.f k l0 l1 p) S := by
  obtain ⟨S, h1, h2⟩ := reaches_l0 hS he p _ (impF l0 l1 p) rfl (impF_rising l0 l1 p) (fun x hx => .one ((mem_impF l0 l1 p x).1 hx)) (fun x hx => (mem_impF l0 l1 p x).2 hx)
  exact ⟨S, h1, Ev.bind (imports_ev hS he p) h2⟩
end
theorem rightF_same {l0 : List ByteArray} {l1 : List S46} (h : rightF l0 l1 = 0) : l0.length = l1.length := by
  apply Classical.byContradiction
  intro hn
  rw [rightF_one hn] at h
  cases h
theorem order_ev {l0 : List ByteArray} {l1 : List S46} (hS : Small l0 l1) : Ev (fun k => rf_Order.f k l0 l1) (ordA l0 l1, ordB l0 l1, rightF l0 l1) := by
  unfold rf_Order.f ordA ordB
  refine Ev.bind (right_ev l0 l1 hS.1 hS.2.1) ?_
  by_cases h : rightF l0 l1 = 0
  · rw [if_pos h, if_pos h, h]
    exact ev_pos rfl (Ev.bind (ref_Folders_ev l0 hS.1 hS.2.1) (order_l0 hS (rightF_same h) _ [] rfl (Going.start _ _)))
  · rw [if_neg h, if_neg h]
    exact ev_neg h (Ev.now _)
end Go.Proofs.YtcejdokeaoklaaaDoor.PImp

/-! PLAIN LAWS: the bound of the laws; what it gives. -/
set_option linter.unusedVariables false
namespace Go.Proofs.YtcejdokeaoklaaaDoor.PImp
open Go.RowKit Go.Proofs.YtcejdokeaoklaaaDoorW.PrintWords Go.Proofs.YtcejdokeaoklaaaDoorW.PrintLast Go.Proofs.YtcejdokeaoklaaaDoorW.PrintMore
open Go.Proofs.YtcejdokeaoklaaaDoor.Imp
def total (l1 : List S46) : Nat := (l1.map (·.f1.length)).sum
theorem total_cons (o : S46) (l : List S46) : total (o :: l) = o.f1.length + total l := by simp [total]
theorem wide_l0 (l1 : List S46) (hl : l1.length < 1048577) (ho : ∀ o ∈ l1, o.f1.length < 1048577) : ∀ n i (a : Nat), l1.length - i = n → i ≤ l1.length → a < 1073741824 → Ev (fun k => lw_wide.l0 k l1 (a : Int) (i : Int)) (decide (1024 < a + total (l1.drop i))) := by
  intro n
  induction n with
  | zero =>
    intro i a hn hi ha
    refine Ev.step (fun k => lw_wide.l0.eq_2 _ _ _ k) (ev_neg (by omega) ?_)
    rw [List.drop_of_length_le (by omega), show decide ((a : Int) > 1024) = decide (1024 < a + total []) from by simp only [total, List.map_nil, List.sum_nil, decide_eq_decide]; omega]
    exact Ev.now _
  | succ n ih =>
    intro i a hn hi ha
    have hil : i < l1.length := by omega
    refine Ev.step (fun k => lw_wide.l0.eq_2 _ _ _ k) (ev_pos (by omega) ?_)
    rw [List.drop_eq_getElem_cons hil, total_cons]
    have hoi := ho _ (List.getElem_mem hil)
    by_cases h : (a : Int) ≤ 1024
    · refine ev_pos h (ev_pos (by omega) ?_)
      rw [rd46 hil, wrap_next hil (by omega), wrap_id (x := (a : Int) + (l1[i].f1.length : Int)) (by omega) (by omega), show (a : Int) + (l1[i].f1.length : Int) = ((a + l1[i].f1.length : Nat) : Int) by omega, ← Nat.add_assoc]
      exact ih (i + 1) (a + l1[i].f1.length) (by omega) (by omega) (by omega)
    · refine ev_neg h ?_
      rw [show decide ((a : Int) > 1024) = decide (1024 < a + (l1[i].f1.length + total (l1.drop (i + 1)))) from by simp only [decide_eq_decide]; omega]
      exact Ev.now _
theorem wide_ev (l0 : List ByteArray) (l1 : List S46) (hl0 : l0.length < 1048577) (hl : l1.length < 1048577) (ho : ∀ o ∈ l1, o.f1.length < 1048577) : Ev (fun k => lw_wide.f k l0 l1) (decide (1024 < l0.length + l1.length + total l1)) := by
  have := wide_l0 l1 hl ho _ 0 (l0.length + l1.length) rfl (Nat.zero_le _) (by omega)
  rw [List.drop_zero] at this
  unfold lw_wide.f
  rw [wrap_id (x := (l0.length : Int) + (l1.length : Int)) (by omega) (by omega), show (l0.length : Int) + (l1.length : Int) = ((l0.length + l1.length : Nat) : Int) by omega]
  exact this
theorem allPairs_total : ∀ (l0 : List ByteArray) (l1 : List S46), (allPairs (l0.zip l1)).length ≤ total l1
  | [], l1 => by simp [allPairs]
  | a :: l0, [] => by simp [allPairs]
  | a :: l0, o :: l1 => by
    have := allPairs_total l0 l1
    rw [total_cons]
    show ((pairsOf (a, o)) ++ allPairs (l0.zip l1)).length ≤ _
    rw [List.length_append]
    have : (pairsOf (a, o)).length = o.f1.length := List.length_map ..
    omega
theorem small_of {l0 : List ByteArray} {l1 : List S46} (hs : ∀ s ∈ l0, s.size < 1048577) (ho : ∀ o ∈ l1, OutLe o 1048577) (hw : ¬ 1024 < l0.length + l1.length + total l1) : Small l0 l1 := by
  have := allPairs_total l0 l1
  exact ⟨by omega, hs, fun o h m hm => (ho o h).paths m hm, by omega⟩
theorem ordA_len {l0 : List ByteArray} {l1 : List S46} (hS : Small l0 l1) : (ordA l0 l1).length < 1073741824 := by
  unfold ordA
  split
  · have h1 := (first_placed (foldersF l0) (edgeF l0 l1)).length_le
    have := foldersF_length l0
    have := hS.1
    omega
  · simp
theorem ordB_len {l0 : List ByteArray} {l1 : List S46} (hS : Small l0 l1) : (ordB l0 l1).length < 1073741824 := by
  unfold ordB
  split
  · have h2 : (second (foldersF l0) (edgeF l0 l1)).length ≤ (foldersF l0).length := by unfold second; exact List.length_filter_le _ _
    have := foldersF_length l0
    have := hS.1
    omega
  · simp
theorem Order_f {l0 : List ByteArray} {l1 : List S46} (hS : Small l0 l1) : imports_Order.f l0 l1 = some (ordA l0 l1, ordB l0 l1, rightF l0 l1) := by
  unfold imports_Order.f
  rw [if_pos hS]
end Go.Proofs.YtcejdokeaoklaaaDoor.PImp
