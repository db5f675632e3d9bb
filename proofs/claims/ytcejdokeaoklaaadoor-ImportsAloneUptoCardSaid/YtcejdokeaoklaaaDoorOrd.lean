import Derived.Test.YtcejdokeaoklaaaDoorSet
import Derived.Test.YtcejdokeaoklaaaDoorNames
import Derived.Lib.SlicesCompact
/-! The order of strings; what slices.Sort and slices.Compact make of a list: the rising list of its members. -/
set_option linter.unusedVariables false
namespace Go.Proofs.YtcejdokeaoklaaaDoor.Imp
open Go.Proofs.YtcejdokeaoklaaaDoor.PImp
theorem less_lt : ∀ (x y : List UInt8), Op.bytesLess x y = decide (x < y)
  | [], [] => by simp [Op.bytesLess]
  | _ :: _, [] => by simp [Op.bytesLess]
  | [], _ :: _ => by simp [Op.bytesLess]
  | a :: x, b :: y => by
    rw [Op.bytesLess, less_lt x y]
    simp only [List.cons_lt_cons_iff]
    by_cases h1 : a < b <;> by_cases h2 : a = b <;> by_cases h3 : x < y <;> simp [h1, h2, h3]
/-- One string is less than another. -/
def ltS (a b : ByteArray) : Bool := Op.bytesLess a.toList b.toList
def ltL (x y : List UInt8) : Bool := decide (x < y)
theorem ordL : Ord ltL where
  irr a := decide_eq_false (List.lt_irrefl a)
  tr a b c h k := decide_eq_true (List.lt_trans (of_decide_eq_true h) (of_decide_eq_true k))
  tot a b h k := List.le_antisymm (List.not_lt.1 (of_decide_eq_false k)) (List.not_lt.1 (of_decide_eq_false h))
theorem ltS_eq (a b : ByteArray) : ltS a b = ltL a.data.toList b.data.toList := by
  unfold ltS ltL
  rw [less_lt, ByteArray.toList_eq, ByteArray.toList_eq]
theorem bytes_inj {a b : ByteArray} (h : a.data.toList = b.data.toList) : a = b := by
  cases a with | mk a => cases b with | mk b => exact congrArg ByteArray.mk (Array.toList_inj.1 h)
theorem ordS : Ord ltS where
  irr a := by rw [ltS_eq]; exact ordL.irr _
  tr a b c h k := by rw [ltS_eq] at *; exact ordL.tr _ _ _ h k
  tot a b h k := by rw [ltS_eq] at *; exact bytes_inj (ordL.tot _ _ h k)
/-- A string of a list of bytes. -/
def strOf (l : List UInt8) : ByteArray := ⟨l.toArray⟩
theorem strOf_list (l : List UInt8) : (strOf l).data.toList = l := rfl
theorem list_strOf (s : ByteArray) : strOf s.data.toList = s := bytes_inj rfl
theorem map_strOf (l : List ByteArray) : (l.map (·.data.toList)).map strOf = l := by
  rw [List.map_map]
  conv => rhs; rw [← List.map_id l]
  exact List.map_congr_left (fun x _ => list_strOf x)
theorem map_list (l : List (List UInt8)) : (l.map strOf).map (·.data.toList) = l := by
  rw [List.map_map]
  conv => rhs; rw [← List.map_id l]
  rfl
theorem rising_strOf {l : List (List UInt8)} (h : Rising ltL l) : Rising ltS (l.map strOf) := by
  unfold Rising at *
  rw [List.pairwise_map]
  exact h.imp (fun {a b} hab => by rw [ltS_eq]; exact hab)
theorem rising_list {l : List ByteArray} (h : Rising ltS l) : Rising ltL (l.map (·.data.toList)) := by
  unfold Rising at *
  rw [List.pairwise_map]
  exact h.imp (fun {a b} hab => by rw [ltS_eq] at hab; exact hab)
/-! ### sorting and compacting -/
theorem sorted_le (l : List (List UInt8)) : (l.mergeSort fun x y => decide (x ≤ y)).Pairwise (fun a b => a ≤ b) := by
  have := List.pairwise_mergeSort (le := fun x y : List UInt8 => decide (x ≤ y)) (fun a b c h k => decide_eq_true (List.le_trans (of_decide_eq_true h) (of_decide_eq_true k)))
    (fun a b => by rcases List.le_total a b with h | h <;> simp [h]) l
  exact this.imp (fun {a b} h => of_decide_eq_true h)
theorem bang_get {l : List (List UInt8)} {i : Nat} (h : i < l.length) : l.toArray[i]! = l[i] := by
  simp [h]
theorem compact_upto {l : List (List UInt8)} (hs : l.Pairwise (fun a b => a ≤ b)) : ∀ m, m ≤ l.length → Rising ltL (Lib.compactUpTo l.toArray m) ∧ (∀ x, x ∈ Lib.compactUpTo l.toArray m ↔ x ∈ l.take m)
  | 0, _ => by
    refine ⟨?_, ?_⟩
    · show List.Pairwise _ _
      exact List.Pairwise.nil
    · intro x
      rw [List.take_zero]
      exact Iff.rfl
  | m + 1, h => by
    obtain ⟨h1, h2⟩ := compact_upto hs m (by omega)
    have hm : m < l.length := by omega
    rw [Lib.compactUpTo_succ, bang_get hm]
    have hmem : ∀ x, x ∈ l.take (m + 1) ↔ x ∈ l.take m ∨ x = l[m] := by
      intro x
      rw [List.take_succ_eq_append_getElem hm, List.mem_append, List.mem_singleton]
    have hle : ∀ x ∈ l.take m, x ≤ l[m] := by
      intro x hx
      obtain ⟨i, hi, rfl⟩ := List.mem_iff_getElem.1 hx
      rw [List.length_take] at hi
      rw [List.getElem_take]
      exact List.pairwise_iff_getElem.1 hs i m (by omega) hm (by omega)
    by_cases hk : Lib.keeps l.toArray m = true
    · rw [if_pos hk]
      refine ⟨?_, fun x => by rw [List.mem_append, List.mem_singleton, h2, hmem]⟩
      show List.Pairwise _ _
      rw [List.pairwise_append]
      refine ⟨h1, by simp, fun a ha b hb => ?_⟩
      rw [List.mem_singleton] at hb
      subst hb
      have ha' := (h2 a).1 ha
      -- a is at most the place before, which differs
      unfold Lib.keeps at hk
      have hk := of_decide_eq_true hk
      have hm0 : m ≠ 0 := fun e => by subst e; simp at ha'
      have hne : l[m] ≠ l[m - 1] := by
        rcases hk with hk | hk
        · exact absurd hk hm0
        · rw [bang_get hm, bang_get (show m - 1 < l.length by omega)] at hk
          exact hk
      have hprev : l[m - 1] ≤ l[m] := List.pairwise_iff_getElem.1 hs (m - 1) m (by omega) hm (by omega)
      have hlt : l[m - 1] < l[m] := by
        apply Classical.byContradiction
        intro hn
        exact hne (List.le_antisymm (List.not_lt.1 hn) hprev)
      have hap : a ≤ l[m - 1] := by
        obtain ⟨i, hi, rfl⟩ := List.mem_iff_getElem.1 ha'
        rw [List.length_take] at hi
        rw [List.getElem_take]
        by_cases e : i = m - 1
        · subst e
          exact List.le_refl _
        · exact List.pairwise_iff_getElem.1 hs i (m - 1) (by omega) (by omega) (by omega)
      exact decide_eq_true (List.lt_of_le_of_lt hap hlt)
    · rw [if_neg hk, List.append_nil]
      refine ⟨h1, fun x => ?_⟩
      rw [h2, hmem]
      constructor
      · exact .inl
      · rintro (hx | rfl)
        · exact hx
        · unfold Lib.keeps at hk
          have hk := fun h => hk (decide_eq_true h)
          have hm0 : m ≠ 0 := fun e => hk (.inl e)
          have he : l.toArray[m]! = l.toArray[m - 1]! := Classical.byContradiction (fun h => hk (.inr h))
          rw [bang_get hm, bang_get (show m - 1 < l.length by omega)] at he
          rw [he]
          exact List.mem_iff_getElem.2 ⟨m - 1, by rw [List.length_take]; omega, by rw [List.getElem_take]⟩
/-- What slices.Compact leaves of what slices.Sort has sorted: the rising list of the members. -/
theorem compact_sorted (l : List (List UInt8)) : Rising ltL (Lib.compact (l.mergeSort fun x y => decide (x ≤ y))) ∧ ∀ x, x ∈ Lib.compact (l.mergeSort fun x y => decide (x ≤ y)) ↔ x ∈ l := by
  obtain ⟨h1, h2⟩ := compact_upto (sorted_le l) _ (Nat.le_refl _)
  refine ⟨h1, fun x => ?_⟩
  unfold Lib.compact
  rw [h2, List.take_length]
  exact (List.mergeSort_perm l _).mem_iff
/-! ### folders of names -/
def folderF (s : ByteArray) : ByteArray := (splitF s).1
def okN (s : ByteArray) : Bool := okName s.data.toList
theorem splitF_err (s : ByteArray) : (splitF s).2.2 = 0 ↔ okN s = true := by
  unfold splitF okN
  split
  · rename_i h; simp [h]
  · rename_i h; simp [h]
/-- The folders of names, as they come. -/
def rawF (l : List ByteArray) : List ByteArray := (l.filter okN).map folderF
/-- THE FOLDERS, rising, each once. -/
def foldersF (l : List ByteArray) : List ByteArray := puts ltS [] (rawF l)
theorem foldersF_rising (l : List ByteArray) : Rising ltS (foldersF l) := rising_puts ordS _ List.Pairwise.nil
theorem mem_foldersF (l : List ByteArray) (x : ByteArray) : x ∈ foldersF l ↔ ∃ s ∈ l, okN s = true ∧ folderF s = x := by
  unfold foldersF rawF
  rw [mem_puts]
  simp [List.mem_map, List.mem_filter, and_assoc]
theorem compact_folders (l : List ByteArray) : ((Lib.compact (((rawF l).map (·.data.toList)).mergeSort fun x y => decide (x ≤ y))).map strOf) = foldersF l := by
  obtain ⟨h1, h2⟩ := compact_sorted ((rawF l).map (·.data.toList))
  refine rising_ext ordS (rising_strOf h1) (foldersF_rising l) (fun x => ?_)
  unfold foldersF
  rw [mem_puts]
  simp only [List.mem_map, h2]
  constructor
  · rintro ⟨y, ⟨z, hz, rfl⟩, rfl⟩
    rw [list_strOf]
    exact .inr hz
  · rintro (h | h)
    · simp at h
    · exact ⟨x.data.toList, ⟨x, h, rfl⟩, list_strOf x⟩
theorem rawF_snoc (l : List ByteArray) (s : ByteArray) : rawF (l ++ [s]) = rawF l ++ (if okN s = true then [folderF s] else []) := by
  unfold rawF
  rw [List.filter_append, List.map_append]
  congr 1
  by_cases h : okN s = true
  · simp [h]
  · simp [h]
theorem rawF_length (l : List ByteArray) : (rawF l).length ≤ l.length := by
  unfold rawF
  rw [List.length_map]
  exact List.length_filter_le _ _
end Go.Proofs.YtcejdokeaoklaaaDoor.Imp
