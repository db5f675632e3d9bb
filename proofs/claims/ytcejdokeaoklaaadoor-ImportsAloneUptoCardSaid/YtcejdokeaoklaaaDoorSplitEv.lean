import Derived.Test.YtcejdokeaoklaaaDoorNames
import Derived.Test.YtcejdokeaoklaaaDoorPImpx6
/-! PLAIN LAWS: both Splits answer splitF, from some number of rounds on. -/
namespace Go.Proofs.YtcejdokeaoklaaaDoor.PImp
open Go.RowKit Go.Proofs.YtcejdokeaoklaaaDoorW.PrintWords Go.Proofs.YtcejdokeaoklaaaDoorW.PrintLast Go.Proofs.YtcejdokeaoklaaaDoorW.PrintMore
open Go.Proofs.YtcejdokeaoklaaaDoor.Imp
section
variable {α β : Type} {r : α}
theorem ev_pos {c : Prop} [Decidable c] {f g : Nat → Option α} (hc : c) (h : Ev f r) : Ev (fun k => if c then f k else g k) r := Ev.congr (fun _ => if_pos hc) h
theorem ev_neg {c : Prop} [Decidable c] {f g : Nat → Option α} (hc : ¬ c) (h : Ev g r) : Ev (fun k => if c then f k else g k) r := Ev.congr (fun _ => if_neg hc) h
theorem ev_let {f : Nat → β → Option α} {b : β} {o : Option β} (ho : o = some b) (h : Ev (fun k => f k b) r) : Ev (fun k => o.bind (f k)) r := Ev.congr (fun k => by rw [ho]; rfl) h
end
theorem wrap_next {n m : Nat} (h : n < m) (hm : m < 9223372036854775808) : wrap64 ((n : Int) + 1) = ((n + 1 : Nat) : Int) := by
  unfold wrap64
  omega
theorem wrap_id {x : Int} (h0 : -9223372036854775808 ≤ x) (h1 : x < 9223372036854775808) : wrap64 x = x := by
  unfold wrap64
  omega
theorem size_list (s : ByteArray) : s.data.toList.length = s.size := by rw [Array.length_toList, ByteArray.size_data]
theorem bt_list (s : ByteArray) {i : Nat} (h : i < s.data.toList.length) : bt s (i : Int) = ((s.data.toList[i]).toNat : Int) := by
  have h' : i < s.size := by rw [← size_list]; exact h
  have := bt_at s (i : Int) (by simpa using h')
  rw [← this]
  simp only [Int.toNat_natCast, Array.getElem_toList]
  rfl
theorem toList_data (s : ByteArray) : s.toList = s.data.toList := ByteArray.toList_eq s
theorem bytes_ext {a b : ByteArray} (h : a.data.toList = b.data.toList) : a = b := by
  cases a with | mk a => cases b with | mk b => exact congrArg ByteArray.mk (Array.toList_inj.1 h)
theorem extract_list (s : ByteArray) (a b : Nat) : (s.extract a b).data.toList = (s.data.toList.take b).drop a := by
  rw [Lib.extract_data, List.drop_take]
theorem nat47 (b : UInt8) : ((b.toNat : Int) = 47) ↔ b = 47 := by
  constructor
  · intro h
    exact UInt8.toNat_inj.1 (by show b.toNat = 47; omega)
  · rintro rfl
    rfl
/-! ### the document's isWord -/
theorem ref_isWord_l0 (s : ByteArray) (hs : s.size < 1048577) : ∀ n (i : Nat), s.size - i = n → i ≤ s.size → Ev (fun k => scholiastref13_isWord.l0 k s (i : Int)) (((s.data.toList.drop i).all wordB) && decide (s.size ≠ 0)) := by
  intro n
  induction n with
  | zero =>
    intro i hn hi
    refine Ev.step (fun k => scholiastref13_isWord.l0.eq_2 _ _ k) ?_
    refine ev_neg (by omega) ?_
    rw [List.drop_of_length_le (by rw [size_list]; omega)]
    have : decide (((s.size : Int)) > 0) = (([] : List UInt8).all wordB && decide (s.size ≠ 0)) := by
      simp only [List.all_nil, Bool.true_and, decide_eq_decide]
      omega
    rw [this]
    exact Ev.now _
  | succ n ih =>
    intro i hn hi
    have hl : i < s.data.toList.length := by rw [size_list]; omega
    refine Ev.step (fun k => scholiastref13_isWord.l0.eq_2 _ _ k) ?_
    refine ev_pos (by omega) (ev_pos (by omega) ?_)
    have hnext := ih (i + 1) (by omega) (by omega)
    rw [wrap_next (m := s.size) (by omega) (by omega), bt_list s hl, List.drop_eq_getElem_cons hl, List.all_cons]
    have hw := wordB_int s.data.toList[i]
    generalize ((s.data.toList[i]).toNat : Int) = c at hw
    generalize s.data.toList[i] = b at hw
    by_cases h1 : 97 ≤ c
    · refine ev_pos h1 ?_
      by_cases h2 : c ≤ 122
      · refine ev_pos h2 ?_
        rw [show wordB b = true by rw [hw]; simp [h1, h2], Bool.true_and]
        exact hnext
      · refine ev_neg h2 (ev_pos (by omega) (ev_neg (by omega) (ev_neg (by omega) ?_)))
        rw [show wordB b = false by rw [hw]; simp; omega, Bool.false_and, Bool.false_and]
        exact Ev.now _
    · refine ev_neg h1 ?_
      by_cases h3 : 48 ≤ c
      · refine ev_pos h3 ?_
        by_cases h4 : c ≤ 57
        · refine ev_pos h4 ?_
          rw [show wordB b = true by rw [hw]; simp [h3, h4], Bool.true_and]
          exact hnext
        · refine ev_neg h4 ?_
          by_cases h5 : c = 95
          · refine ev_pos h5 ?_
            rw [show wordB b = true by rw [hw]; simp [h5], Bool.true_and]
            exact hnext
          · refine ev_neg h5 ?_
            rw [show wordB b = false by rw [hw]; simp; omega, Bool.false_and, Bool.false_and]
            exact Ev.now _
      · refine ev_neg h3 (ev_neg (by omega) ?_)
        rw [show wordB b = false by rw [hw]; simp; omega, Bool.false_and, Bool.false_and]
        exact Ev.now _
theorem ref_isWord_ev (s : ByteArray) (hs : s.size < 1048577) : Ev (fun k => scholiastref13_isWord.f k s) (wordL s.data.toList) := by
  rw [← wordOf_eq]
  have := ref_isWord_l0 s hs s.size 0 (by omega) (by omega)
  rw [List.drop_zero] at this
  exact this
/-! ### the document's Split -/
/-- What the document answers from the place i on, the piece under way beginning at f. -/
def refAns (s : ByteArray) (f : Nat) : ByteArray × ByteArray × Int :=
  let st := s.data.toList.take (s.size - 3)
  let ps := pieces (st.drop f)
  if ps.all wordL = true ∧ (0 < f ∨ 2 ≤ ps.length) then (s.extract 0 (s.size - 3 - 1 - (lastPiece (st.drop f)).length), s.extract (s.size - 3 - 1 - (lastPiece (st.drop f)).length + 1) s.size, 0) else (⟨#[]⟩, ⟨#[]⟩, 130)
theorem take_split {l : List UInt8} {f i : Nat} (hf : f ≤ i) (hi : i < l.length) (hb : l[i] = 47) : l.drop f = (l.take i).drop f ++ 47 :: l.drop (i + 1) := by
  have h1 : l = l.take i ++ 47 :: l.drop (i + 1) := by
    rw [← hb, ← List.drop_eq_getElem_cons hi, List.take_append_drop]
  conv => lhs; rw [h1]
  rw [List.drop_append_of_le_length (by rw [List.length_take]; omega)]
theorem ref_Split_l0 (s : ByteArray) (h3 : 3 ≤ s.size) (hs : s.size ≤ 32) : ∀ n (f i : Nat), s.size - 3 - i = n → f ≤ i → i ≤ s.size - 3 → (∀ x ∈ (s.data.toList.take i).drop f, x ≠ 47) →
    Ev (fun k => scholiastref13_Split.l0 k s (s.size : Int) (if f = 0 then -1 else ((f - 1 : Nat) : Int)) (f : Int) (i : Int)) (refAns s f) := by
  intro n
  have hlen := size_list s
  have hst : (s.data.toList.take (s.size - 3)).length = s.size - 3 := by rw [List.length_take]; omega
  have hw3 : wrap64 ((s.size : Int) - 3) = ((s.size - 3 : Nat) : Int) := by rw [wrap_id (by omega) (by omega)]; omega
  induction n with
  | zero =>
    intro f i hn hf hi hno
    have ei : i = s.size - 3 := by omega
    subst ei
    refine Ev.step (fun k => scholiastref13_Split.l0.eq_2 _ _ _ _ _ k) ?_
    rw [hw3]
    refine ev_neg (by omega) ?_
    unfold refAns
    simp only [pieces_miss hno, lastPiece_miss hno, List.all_cons, List.all_nil, Bool.and_true, List.length_singleton]
    by_cases f0 : f = 0
    · subst f0
      refine ev_pos (by simp) ?_
      rw [if_neg (by omega)]
      exact Ev.now _
    · rw [if_neg f0]
      refine ev_neg (by omega) (ev_pos (by omega) (ev_pos (by omega) (ev_pos (by omega) ?_)))
      refine Ev.bind (ref_isWord_ev _ (by rw [ByteArray.size_extract]; omega)) ?_
      simp only [Int.toNat_natCast, extract_list]
      have hll : ((s.data.toList.take (s.size - 3)).drop f).length = s.size - 3 - f := by rw [List.length_drop, hst]
      by_cases hw : wordL ((s.data.toList.take (s.size - 3)).drop f) = true
      · refine ev_pos hw (ev_pos (by omega) (ev_pos (by omega) ?_))
        rw [wrap_next (m := s.size) (by omega) (by omega)]
        refine ev_pos (by omega) (ev_pos (by omega) ?_)
        rw [if_pos ⟨hw, by omega⟩, hll]
        simp only [Int.toNat_natCast]
        rw [show s.size - 3 - 1 - (s.size - 3 - f) = f - 1 by omega]
        exact Ev.now _
      · refine ev_neg hw ?_
        rw [if_neg (fun h => hw h.1)]
        exact Ev.now _
  | succ n ih =>
    intro f i hn hf hi hno
    have hl : i < s.data.toList.length := by omega
    refine Ev.step (fun k => scholiastref13_Split.l0.eq_2 _ _ _ _ _ k) ?_
    rw [hw3, bt_list s hl, wrap_next (m := s.size) (by omega) (by omega)]
    refine ev_pos (by omega) (ev_pos (by omega) (ev_pos (by omega) ?_))
    by_cases hb : s.data.toList[i] = 47
    · refine ev_pos ((nat47 _).2 hb) (ev_pos (by omega) (ev_pos (by omega) (ev_pos (by omega) ?_)))
      refine Ev.bind (ref_isWord_ev _ (by rw [ByteArray.size_extract]; omega)) ?_
      simp only [Int.toNat_natCast, extract_list]
      have hsti : i < (s.data.toList.take (s.size - 3)).length := by omega
      have hgi : (s.data.toList.take (s.size - 3))[i] = 47 := by rw [List.getElem_take]; exact hb
      have hsp := take_split hf hsti hgi
      rw [List.take_take, Nat.min_eq_left (by omega)] at hsp
      have hps : pieces ((s.data.toList.take (s.size - 3)).drop f) = (s.data.toList.take i).drop f :: pieces ((s.data.toList.take (s.size - 3)).drop (i + 1)) := by rw [hsp, pieces_hit hno]
      have hlp : lastPiece ((s.data.toList.take (s.size - 3)).drop f) = lastPiece ((s.data.toList.take (s.size - 3)).drop (i + 1)) := by rw [hsp, lastPiece_hit hno]
      have hpos := List.length_pos_iff.2 (pieces_ne ((s.data.toList.take (s.size - 3)).drop (i + 1)))
      by_cases hw : wordL ((s.data.toList.take i).drop f) = true
      · refine ev_pos hw ?_
        have := ih (i + 1) (i + 1) (by omega) (by omega) (by omega) (by simp)
        rw [if_neg (by omega)] at this
        have e : refAns s (i + 1) = refAns s f := by
          unfold refAns
          simp only [hps, hlp, List.all_cons, hw, Bool.true_and, List.length_cons]
          by_cases ha : (pieces ((s.data.toList.take (s.size - 3)).drop (i + 1))).all wordL = true
          · rw [if_pos ⟨ha, by omega⟩, if_pos ⟨ha, by omega⟩]
          · rw [if_neg (fun h => ha h.1), if_neg (fun h => ha h.1)]
        rw [← e]
        exact this
      · refine ev_neg hw ?_
        have e : refAns s f = (⟨#[]⟩, ⟨#[]⟩, 130) := by
          unfold refAns
          simp only [hps, List.all_cons]
          rw [if_neg (fun h => by simp [hw] at h)]
        rw [e]
        exact Ev.now _
    · refine ev_neg (fun h => hb ((nat47 _).1 h)) ?_
      refine ih f (i + 1) (by omega) (by omega) (by omega) ?_
      intro x hx
      rw [List.take_succ_eq_append_getElem hl, List.drop_append_of_le_length (by rw [List.length_take]; omega)] at hx
      rcases List.mem_append.1 hx with hx | hx
      · exact hno x hx
      · simp at hx
        rw [hx]
        exact hb
theorem refAns_zero (s : ByteArray) (h3 : 3 ≤ s.size) (hs : s.size ≤ 32) (hgo : s.data.toList.drop (s.size - 3) = [46, 103, 111]) : refAns s 0 = splitF s := by
  unfold refAns splitF cutAt okName
  simp only [size_list, List.drop_zero, hgo, decide_true, Bool.and_true]
  by_cases h : (pieces (s.data.toList.take (s.size - 3))).all wordL = true ∧ (0 < 0 ∨ 2 ≤ (pieces (s.data.toList.take (s.size - 3))).length)
  · rw [if_pos h, if_pos (by simp only [Bool.and_eq_true, decide_eq_true_eq]; exact ⟨⟨⟨hs, h3⟩, h.2.resolve_left (by omega)⟩, h.1⟩)]
  · rw [if_neg h, if_neg (by simp only [Bool.and_eq_true, decide_eq_true_eq]; exact fun h' => h ⟨h'.2, .inr h'.1.2⟩)]
theorem splitF_no {s : ByteArray} (h : okName s.data.toList = false) : splitF s = (⟨#[]⟩, ⟨#[]⟩, 130) := by
  unfold splitF
  rw [if_neg (by rw [h]; decide)]
theorem okName_no {s : ByteArray} (h : ¬ (s.size ≤ 32 ∧ 3 ≤ s.size ∧ s.data.toList.drop (s.size - 3) = [46, 103, 111])) : okName s.data.toList = false := by
  cases e : okName s.data.toList
  · rfl
  · obtain ⟨h1, h2, h3, _⟩ := okName_cases e
    rw [size_list] at h1 h2 h3
    exact absurd ⟨h1, h2, h3⟩ h
theorem ref_Split_ev (s : ByteArray) (hb : s.size < 1048577) : Ev (fun k => scholiastref13_Split.f k s) (splitF s) := by
  unfold scholiastref13_Split.f
  have hj : ∀ x : Int, Ev (fun k => scholiastref13_Split.j0 k s x true) ((⟨#[]⟩ : ByteArray), (⟨#[]⟩ : ByteArray), (130 : Int)) := fun x => Ev.step (fun k => scholiastref13_Split.j0.eq_2 _ _ _ k) (ev_pos rfl (Ev.now _))
  by_cases h1 : (s.size : Int) > 32
  · refine ev_pos h1 ?_
    rw [splitF_no (okName_no (by omega))]
    exact hj _
  · refine ev_neg h1 ?_
    by_cases h2 : (s.size : Int) < 3
    · refine ev_pos h2 ?_
      rw [splitF_no (okName_no (by omega))]
      exact hj _
    · have hw3 : wrap64 ((s.size : Int) - 3) = ((s.size - 3 : Nat) : Int) := by rw [wrap_id (by omega) (by omega)]; omega
      refine ev_neg h2 ?_
      rw [hw3]
      refine ev_pos (by omega) (ev_pos (by omega) ?_)
      simp only [Int.toNat_natCast]
      have hx : (s.extract (s.size - 3) s.size).toList = s.data.toList.drop (s.size - 3) := by
        rw [toList_data, extract_list, List.take_of_length_le (by rw [size_list]; exact Nat.le_refl _)]
      rw [hx]
      by_cases hgo : s.data.toList.drop (s.size - 3) = [46, 103, 111]
      · rw [hgo, ← refAns_zero s (by omega) (by omega) hgo]
        refine Ev.step (fun k => scholiastref13_Split.j0.eq_2 _ _ _ k) ?_
        refine ev_neg (by decide) ?_
        have := ref_Split_l0 s (by omega) (by omega) (s.size - 3) 0 0 (by omega) (by omega) (by omega) (by simp)
        exact this
      · rw [splitF_no (okName_no (fun h => hgo h.2.2)), show (s.data.toList.drop (s.size - 3) != ([46, 103, 111] : List UInt8)) = true by simpa using hgo]
        exact hj _
/-! ### the program's Split -/
theorem last_l0 (s : ByteArray) (pre suf : List UInt8) (he : s.data.toList = pre ++ 47 :: suf) (hno : ∀ x ∈ suf, x ≠ 47) (hb : s.size < 1048577) : ∀ n (i : Nat), i - pre.length = n → pre.length ≤ i → i < s.size → Ev (fun k => bytealg_LastIndexByteString.l0 k s 47 (i : Int)) (pre.length : Int) := by
  intro n
  induction n with
  | zero =>
    intro i hn h1 h2
    have ei : i = pre.length := by omega
    subst ei
    have hl : pre.length < s.data.toList.length := by rw [size_list]; omega
    have hg : s.data.toList[pre.length] = 47 := by simp [he]
    refine Ev.step (fun k => bytealg_LastIndexByteString.l0.eq_2 _ _ _ k) ?_
    rw [bt_list s hl, hg]
    exact ev_pos (by omega) (ev_pos (by omega) (ev_pos (by omega) (ev_pos (by decide) (Ev.now _))))
  | succ n ih =>
    intro i hn h1 h2
    have hl : i < s.data.toList.length := by rw [size_list]; omega
    refine Ev.step (fun k => bytealg_LastIndexByteString.l0.eq_2 _ _ _ k) ?_
    rw [bt_list s hl]
    have hne : s.data.toList[i] ≠ 47 := by
      refine hno _ ?_
      have : s.data.toList[i]? = (pre ++ 47 :: suf)[i]? := by rw [he]
      rw [List.getElem?_eq_getElem hl, List.getElem?_append_right (by omega)] at this
      obtain ⟨m, hm⟩ : ∃ m, i - pre.length = m + 1 := ⟨i - pre.length - 1, by omega⟩
      rw [hm, List.getElem?_cons_succ] at this
      exact List.mem_of_getElem? this.symm
    refine ev_pos (by omega) (ev_pos (by omega) (ev_pos (by omega) (ev_neg (fun h => hne ((nat47 _).1 h)) ?_)))
    rw [wrap_id (by omega) (by omega), show (i : Int) - 1 = ((i - 1 : Nat) : Int) by omega]
    exact ih (i - 1) (by omega) (by omega) (by omega)
theorem last_ev (s : ByteArray) (pre suf : List UInt8) (he : s.data.toList = pre ++ 47 :: suf) (hno : ∀ x ∈ suf, x ≠ 47) (hb : s.size < 1048577) : Ev (fun k => strings_LastIndexByte.f k s 47) (pre.length : Int) := by
  have hlen := congrArg List.length he
  rw [size_list] at hlen
  simp only [List.length_append, List.length_cons] at hlen
  refine Ev.bind (a := (pre.length : Int)) ?_ (Ev.now _)
  unfold bytealg_LastIndexByteString.f
  rw [wrap_id (by omega) (by omega), show (s.size : Int) - 1 = ((s.size - 1 : Nat) : Int) by omega]
  exact last_l0 s pre suf he hno hb _ (s.size - 1) rfl (by omega) (by omega)
theorem rdOf_get {xs : List ByteArray} {n : Nat} (h : n < xs.length) : rdOf ByteArray.empty xs (n : Int) = xs[n] := by
  simp [rdOf, List.getD, h]
theorem isWord_f (s : ByteArray) (h : s.size < 1048577) : imports_isWord.f s = some (wordL s.data.toList) := by
  unfold imports_isWord.f
  rw [if_pos (by omega), wordOf_eq]
theorem words_l0 (s : ByteArray) (xs : List ByteArray) (hs : s.size ≤ 32) (hx : ∀ x ∈ xs, x.size < 1048577) (hl : xs.length < 1048577) (pre suf : List UInt8) (he : (∀ x ∈ xs, wordL x.data.toList = true) → s.data.toList = pre ++ 47 :: suf) (hno : ∀ x ∈ suf, x ≠ 47) :
    ∀ n (i : Nat), xs.length - i = n → i ≤ xs.length → (∀ x ∈ xs.take i, wordL x.data.toList = true) → Ev (fun k => imports_Split.l0 k s xs (xs.length : Int) (i : Int)) (if xs.all (fun x => wordL x.data.toList) = true then (s.extract 0 pre.length, s.extract (pre.length + 1) s.size, 0) else (⟨#[]⟩, ⟨#[]⟩, 130)) := by
  intro n
  induction n with
  | zero =>
    intro i hn hi hw
    have ei : i = xs.length := by omega
    subst ei
    rw [List.take_length] at hw
    have he := he hw
    have hlen := congrArg List.length he
    rw [size_list] at hlen
    simp only [List.length_append, List.length_cons] at hlen
    refine Ev.step (fun k => imports_Split.l0.eq_2 _ _ _ _ k) ?_
    refine ev_neg (by omega) ?_
    refine Ev.bind (last_ev s pre suf he hno (by omega)) ?_
    rw [wrap_next (m := s.size) (by omega) (by omega), if_pos (List.all_eq_true.2 hw)]
    simp only [Int.toNat_natCast]
    exact ev_pos (by omega) (ev_pos (by omega) (ev_pos (by omega) (ev_pos (by omega) (Ev.now _))))
  | succ n ih =>
    intro i hn hi hw
    have hlt : i < xs.length := by omega
    refine Ev.step (fun k => imports_Split.l0.eq_2 _ _ _ _ k) ?_
    refine ev_pos (by omega) (ev_pos (by omega) (ev_pos (by omega) ?_))
    rw [rdOf_get hlt]
    refine ev_let (isWord_f _ (hx _ (List.getElem_mem hlt))) ?_
    by_cases h : wordL (xs[i]).data.toList = true
    · refine ev_pos h ?_
      rw [wrap_next hlt (by omega)]
      refine ih (i + 1) (by omega) (by omega) ?_
      intro x hx
      rw [List.take_succ_eq_append_getElem hlt] at hx
      rcases List.mem_append.1 hx with hx | hx
      · exact hw x hx
      · simp at hx
        rw [hx]
        exact h
    · refine ev_neg h ?_
      rw [if_neg (fun ha : xs.all (fun x => wordL x.data.toList) = true => h (List.all_eq_true.1 ha _ (List.getElem_mem hlt)))]
      exact Ev.now _
theorem prog_Split_ev (s : ByteArray) (hb : s.size < 1048577) : Ev (fun k => imports_Split.f k s) (splitF s) := by
  unfold imports_Split.f
  have hj : ∀ xs, Ev (fun k => imports_Split.j0 k s xs true) ((⟨#[]⟩ : ByteArray), (⟨#[]⟩ : ByteArray), (130 : Int)) := fun x => Ev.step (fun k => imports_Split.j0.eq_2 _ _ _ k) (ev_pos rfl (Ev.now _))
  -- the suffix
  have hcut : strings_CutSuffix.f s (⟨#[46, 103, 111]⟩ : ByteArray) = some (if 3 ≤ s.size ∧ s.data.toList.drop (s.size - 3) = [46, 103, 111] then (s.extract 0 (s.size - 3), true) else (s, false)) := by
    unfold strings_CutSuffix.f stringslite_CutSuffix.f stringslite_HasSuffix.f
    have e3 : (((⟨#[46, 103, 111]⟩ : ByteArray).size : Nat) : Int) = 3 := rfl
    have e4 : (⟨#[46, 103, 111]⟩ : ByteArray).toList = [46, 103, 111] := by rw [toList_data]
    rw [e3, e4]
    by_cases h3 : 3 ≤ s.size
    · have hw3 : wrap64 ((s.size : Int) - 3) = ((s.size - 3 : Nat) : Int) := by rw [wrap_id (by omega) (by omega)]; omega
      have hx : (s.extract (s.size - 3) s.size).toList = s.data.toList.drop (s.size - 3) := by
        rw [toList_data, extract_list, List.take_of_length_le (by rw [size_list]; exact Nat.le_refl _)]
      rw [if_pos (by omega), hw3, if_pos (by omega), if_pos (by omega)]
      simp only [Int.toNat_natCast, Option.bind_some, hx]
      by_cases hgo : s.data.toList.drop (s.size - 3) = [46, 103, 111]
      · rw [hgo, if_pos (by decide), if_pos (by omega), if_pos (by omega), if_pos ⟨h3, rfl⟩]
        rfl
      · rw [if_neg (by simpa using hgo), if_neg (fun h => hgo h.2)]
        rfl
    · rw [if_neg (by omega), if_neg (fun h : 3 ≤ s.size ∧ s.data.toList.drop (s.size - 3) = [46, 103, 111] => h3 h.1)]
      rfl
  rw [hcut]
  simp only [Option.bind_some]
  by_cases h3 : 3 ≤ s.size ∧ s.data.toList.drop (s.size - 3) = [46, 103, 111]
  · simp only [if_pos h3]
    have hsz : (s.extract 0 (s.size - 3)).size = s.size - 3 := by rw [ByteArray.size_extract]; omega
    have hdl : (s.extract 0 (s.size - 3)).data.toList = s.data.toList.take (s.size - 3) := by rw [extract_list, List.drop_zero]
    have hpc := splitB_pieces (s.extract 0 (s.size - 3))
    rw [hdl] at hpc
    refine ev_let (b := Go.Lib.splitB ⟨#[47]⟩ 0 (Go.Lib.countB (s.extract 0 (s.size - 3)) ⟨#[47]⟩) (s.extract 0 (s.size - 3))) (by unfold strings_Split.f; rw [if_pos ⟨by omega, rfl⟩]) ?_
    generalize Go.Lib.splitB ⟨#[47]⟩ 0 (Go.Lib.countB (s.extract 0 (s.size - 3)) ⟨#[47]⟩) (s.extract 0 (s.size - 3)) = xs at hpc
    have hlx : xs.length = (pieces (s.data.toList.take (s.size - 3))).length := by rw [← hpc, List.length_map]
    refine ev_pos trivial ?_
    by_cases h1 : (s.size : Int) > 32
    · refine ev_pos h1 ?_
      rw [splitF_no (okName_no (by omega))]
      exact hj _
    · refine ev_neg h1 ?_
      by_cases h2 : (xs.length : Int) < 2
      · rw [show decide ((xs.length : Int) < 2) = true from decide_eq_true h2, splitF_no]
        · exact hj _
        · cases e : okName s.data.toList
          · rfl
          · obtain ⟨_, _, _, h4, _⟩ := okName_cases e
            rw [size_list] at h4
            omega
      · rw [show decide ((xs.length : Int) < 2) = false from decide_eq_false h2]
        refine Ev.step (fun k => imports_Split.j0.eq_2 _ _ _ k) (ev_neg (by decide) ?_)
        have hall : xs.all (fun x => wordL x.data.toList) = (pieces (s.data.toList.take (s.size - 3))).all wordL := by rw [← hpc, List.all_map]; rfl
        have hok : okName s.data.toList = xs.all (fun x => wordL x.data.toList) := by
          unfold okName
          rw [size_list, hall, decide_eq_true (show s.size ≤ 32 by omega), decide_eq_true h3.1, decide_eq_true h3.2, decide_eq_true (show 2 ≤ (pieces (s.data.toList.take (s.size - 3))).length by omega)]
          simp
        obtain ⟨pre, e, _⟩ := lastPiece_cut (s.data.toList.take (s.size - 3)) (by omega)
        have hl : s.data.toList = s.data.toList.take (s.size - 3) ++ s.data.toList.drop (s.size - 3) := (List.take_append_drop _ _).symm
        have hlen2 := congrArg List.length e
        rw [show (s.data.toList.take (s.size - 3)).length = s.size - 3 by rw [List.length_take, size_list]; omega] at hlen2
        simp only [List.length_append, List.length_cons] at hlen2
        have hsplit : s.data.toList = pre ++ 47 :: (lastPiece (s.data.toList.take (s.size - 3)) ++ [46, 103, 111]) := by
          rw [h3.2] at hl
          conv => lhs; rw [hl, e]
          simp
        have hcnt : (pieces (s.data.toList.take (s.size - 3))).length ≤ 33 := by
          rw [← splitK_pieces _ _ rfl]
          have : ∀ (k : Nat) (l : List UInt8), (Lib.splitK [47] 0 k l).length ≤ k + 1 := by
            intro k
            induction k with
            | zero => intro l; exact Nat.le_refl _
            | succ k ih =>
              intro l
              unfold Lib.splitK
              split
              · simp
              · rw [List.length_cons]; have := ih (l.drop ((Lib.index l [47]).toNat + [(47 : UInt8)].length)); omega
          refine Nat.le_trans (this _ _) ?_
          have := List.count_le_length (a := (47 : UInt8)) (l := s.data.toList.take (s.size - 3))
          rw [List.length_take] at this
          omega
        have hsmall : ∀ x ∈ xs, x.size < 1048577 := by
          intro x hx
          have hm : x.data.toList ∈ pieces (s.data.toList.take (s.size - 3)) := by rw [← hpc]; exact List.mem_map_of_mem hx
          have : ∀ l : List UInt8, ∀ p ∈ pieces l, p.length ≤ l.length := fun l => slash_rec (P := fun l => ∀ p ∈ pieces l, p.length ≤ l.length) (fun l h => by rw [pieces_miss h]; simp) (fun a b h ih => by
            rw [pieces_hit h]
            intro p hp
            rcases List.mem_cons.1 hp with rfl | hp
            · simp
            · have := ih p hp
              simp
              omega) l.length l (Nat.le_refl _)
          have := this _ _ hm
          rw [size_list, List.length_take, size_list] at this
          omega
        have hrun := words_l0 s xs (by omega) hsmall (by omega) pre (lastPiece (s.data.toList.take (s.size - 3)) ++ [46, 103, 111]) (fun _ => hsplit) (fun x hx => by
          rcases List.mem_append.1 hx with hx | hx
          · exact lastPiece_no _ x hx
          · simp at hx
            rcases hx with rfl | rfl | rfl <;> decide) xs.length 0 (by omega) (by omega) (by simp)
        have e2 : splitF s = (if xs.all (fun x => wordL x.data.toList) = true then (s.extract 0 pre.length, s.extract (pre.length + 1) s.size, 0) else (⟨#[]⟩, ⟨#[]⟩, 130)) := by
          unfold splitF
          rw [hok]
          have : cutAt s.data.toList = pre.length := by
            unfold cutAt
            rw [size_list]
            omega
          rw [this]
        rw [e2]
        exact hrun
  · simp only [if_neg h3]
    refine ev_let (b := Go.Lib.splitB ⟨#[47]⟩ 0 (Go.Lib.countB s ⟨#[47]⟩) s) (by unfold strings_Split.f; rw [if_pos ⟨by omega, rfl⟩]) ?_
    refine ev_neg (by decide) ?_
    rw [splitF_no (okName_no (fun h => h3 h.2))]
    exact hj _
/-! ### the law -/
theorem splitF_join (s : ByteArray) (h : okName s.data.toList = true) : (splitF s).1 ++ (⟨#[47]⟩ : ByteArray) ++ (splitF s).2.1 = s := by
  obtain ⟨pre, suf, e, hp, _, _⟩ := okName_cut h
  unfold splitF
  rw [if_pos h]
  apply bytes_ext
  simp only [ByteArray.data_append, Array.toList_append, extract_list, ← hp]
  rw [List.take_of_length_le (l := s.data.toList) (i := s.size) (by rw [size_list]; exact Nat.le_refl _), e]
  simp
theorem ImportsSplits_pure (s : ByteArray) (hb : s.size < 1048577) : ∃ k, scholiastlaw13_ImportsSplits.f k s = some true := by
  refine Ev.rounds (g := fun k => scholiastlaw13_ImportsSplits.f k s) ?_
  unfold scholiastlaw13_ImportsSplits.f
  refine Ev.bind (prog_Split_ev s hb) (Ev.bind (ref_Split_ev s hb) ?_)
  refine ev_pos rfl (ev_pos rfl (ev_pos rfl ?_))
  cases h : okName s.data.toList
  · rw [splitF_no h]
    exact ev_neg (by decide) (Ev.now _)
  · have hj := splitF_join s h
    have hz : (splitF s).2.2 = 0 := by unfold splitF; rw [if_pos h]
    have hsz := congrArg ByteArray.size hj
    simp only [ByteArray.size_append] at hsz
    have h1 : (⟨#[47]⟩ : ByteArray).size = 1 := rfl
    refine ev_pos hz (ev_pos (by omega) (ev_pos (by simp only [ByteArray.size_append]; omega) ?_))
    rw [hj]
    simp only [beq_self_eq_true]
    exact Ev.now _
end Go.Proofs.YtcejdokeaoklaaaDoor.PImp
