import Derived.Test.YtcejdokeaoklaaaDoorPlain
import Derived.Test.YtcejdokeaoklaaaDoorPImpx20
/-! PLAIN LAW: ImportsStand. -/
set_option linter.unusedVariables false
namespace Go.Proofs.YtcejdokeaoklaaaDoor.PImp
open Go.RowKit Go.Proofs.YtcejdokeaoklaaaDoorW.PrintWords Go.Proofs.YtcejdokeaoklaaaDoorW.PrintLast Go.Proofs.YtcejdokeaoklaaaDoorW.PrintMore
open Go.Proofs.YtcejdokeaoklaaaDoor.Imp
/-! ### where a text stands in a list -/
def pI (l : List ByteArray) (s : ByteArray) : Nat := l.findIdx fun x => decide (x = s)
def placeF (l : List ByteArray) (s : ByteArray) : Int := if pI l s < l.length then (pI l s : Int) else -1
theorem pI_get {l : List ByteArray} {s : ByteArray} (h : pI l s < l.length) : l[pI l s] = s := of_decide_eq_true (List.findIdx_getElem (w := h))
theorem pI_le {l : List ByteArray} {j : Nat} (hj : j < l.length) : pI l l[j] ≤ j := by
  unfold pI
  refine Nat.le_of_not_lt fun h => ?_
  have := List.not_of_lt_findIdx h
  simp at this
theorem pI_lt {l : List ByteArray} {s : ByteArray} : pI l s < l.length ↔ s ∈ l := by
  constructor
  · intro h
    have := List.getElem_mem h
    rwa [pI_get h] at this
  · intro h
    obtain ⟨j, hj, rfl⟩ := List.getElem_of_mem h
    have := pI_le hj
    omega
theorem placeF_in {l : List ByteArray} {s : ByteArray} (h : s ∈ l) : placeF l s = (pI l s : Int) := if_pos (pI_lt.2 h)
theorem placeF_out {l : List ByteArray} {s : ByteArray} (h : s ∉ l) : placeF l s = -1 := if_neg (fun h' => h (pI_lt.1 h'))
theorem placeF_ge {l : List ByteArray} {s : ByteArray} : placeF l s ≥ 0 ↔ s ∈ l := by
  by_cases h : s ∈ l
  · rw [placeF_in h]
    exact ⟨fun _ => h, fun _ => by omega⟩
  · rw [placeF_out h]
    exact ⟨fun h' => by omega, fun h' => absurd h' h⟩
theorem place_l0 (l : List ByteArray) (s : ByteArray) (hl : l.length < 1073741824) : ∀ n i, l.length - i = n → i ≤ l.length → (∀ j (hj : j < l.length), j < i → l[j] ≠ s) → Ev (fun k => scholiastlaw13_place.l0 k l s (i : Int)) (placeF l s) := by
  intro n
  induction n with
  | zero =>
    intro i hn hi hno
    refine Ev.step (fun k => scholiastlaw13_place.l0.eq_2 _ _ _ k) (ev_neg (by omega) ?_)
    rw [placeF_out (fun h => by obtain ⟨j, hj, e⟩ := List.getElem_of_mem h; exact hno j hj (by omega) e)]
    exact Ev.now _
  | succ n ih =>
    intro i hn hi hno
    have hil : i < l.length := by omega
    refine Ev.step (fun k => scholiastlaw13_place.l0.eq_2 _ _ _ k) (ev_pos (by omega) (ev_pos (by omega) ?_))
    rw [rdOf_get hil]
    by_cases h : l[i] = s
    · refine ev_pos (toList_inj.2 h) ?_
      have hm : s ∈ l := h ▸ List.getElem_mem hil
      have h1 : pI l s ≤ i := by have := pI_le hil; rwa [h] at this
      have h2 : pI l s = i := by
        have hlt := pI_lt.2 hm
        refine Nat.le_antisymm h1 (Nat.le_of_not_lt fun hc => ?_)
        exact hno _ hlt hc (pI_get hlt)
      rw [placeF_in hm, h2]
      exact Ev.now _
    · refine ev_neg (fun e => h (toList_inj.1 e)) ?_
      rw [wrap_next hil (by omega)]
      refine ih (i + 1) (by omega) (by omega) fun j hj hji => ?_
      by_cases e : j = i
      · subst e
        exact h
      · exact hno j hj (by omega)
theorem place_ev (l : List ByteArray) (s : ByteArray) (hl : l.length < 1073741824) : Ev (fun k => scholiastlaw13_place.f k l s) (placeF l s) := place_l0 l s hl _ 0 rfl (Nat.zero_le _) (fun _ _ h => by omega)
/-- In what is placed, whom one imports stands ahead. -/
theorem placed_ahead {all : List ByteArray} {edge : ByteArray → ByteArray → Bool} {d : List ByteArray} (h : Placed all edge d) {f p : ByteArray} (hf : f ∈ d) (hp : p ∈ all) (he : edge f p = true) : p ∈ d ∧ pI d p < pI d f := by
  have hlt := pI_lt.2 hf
  have hd : d = d.take (pI d f) ++ f :: d.drop (pI d f + 1) := by
    conv => lhs; rw [← List.take_append_drop (pI d f) d, List.drop_eq_getElem_cons hlt, pI_get hlt]
  have hm := h.2.2 _ f _ hd p hp he
  obtain ⟨j, hj, e⟩ := List.getElem_of_mem hm
  rw [List.length_take] at hj
  rw [List.getElem_take] at e
  have hjl : j < d.length := by omega
  have := pI_le hjl
  rw [e] at this
  exact ⟨List.mem_of_mem_take hm, by omega⟩
/-! ### who imports whom, by the files -/
theorem edge_of {l0 : List ByteArray} {l1 : List S46} {i : Nat} (hi : i < l0.length) (h1 : i < l1.length) {m : S48} (hm : m ∈ l1[i].f1) (hp : m.f1 ∈ foldersF l0) : edgeF l0 l1 (folderF l0[i]) m.f1 = true := by
  unfold edgeF edgeE
  rw [Bool.and_eq_true]
  refine ⟨decide_eq_true ?_, decide_eq_true hp⟩
  unfold allPairs
  rw [List.mem_flatMap]
  have hz : i < (l0.zip l1).length := by rw [List.length_zip]; omega
  refine ⟨(l0.zip l1)[i], List.getElem_mem hz, ?_⟩
  rw [List.getElem_zip]
  exact List.mem_map.2 ⟨m, hm, rfl⟩
theorem of_edge {l0 : List ByteArray} {l1 : List S46} {a b : ByteArray} (h : edgeF l0 l1 a b = true) : ∃ (i : Nat) (hi : i < l0.length) (h1 : i < l1.length), folderF l0[i] = a ∧ ∃ m ∈ l1[i].f1, m.f1 = b := by
  unfold edgeF edgeE at h
  rw [Bool.and_eq_true] at h
  have hm := of_decide_eq_true h.1
  unfold allPairs at hm
  rw [List.mem_flatMap] at hm
  obtain ⟨x, hx, hm⟩ := hm
  obtain ⟨i, hi, rfl⟩ := List.getElem_of_mem hx
  rw [List.getElem_zip] at hm
  obtain ⟨m, hm, e⟩ := List.mem_map.1 hm
  rw [Prod.mk.injEq] at e
  rw [List.length_zip] at hi
  exact ⟨i, by omega, by omega, e.1, m, hm, e.2⟩
def cyc (d : S52) : Bool := d.f0 == 302
/-- What is told of a file has a ring in it just if its folder is in a ring by one of its imports. -/
theorem rowF_cyc {l0 : List ByteArray} {l1 : List S46} {i : Nat} (hi : i < l0.length) (h1 : i < l1.length) : (rowF l0 l1 i).any cyc = true ↔ ∃ m ∈ l1[i].f1, m.f1 ∈ foldersF l0 ∧ (m.f1 = folderF l0[i] ∨ Imp.Reach (fun a b => edgeF l0 l1 a b = true) m.f1 (folderF l0[i])) := by
  unfold rowF
  rw [List.any_append, Bool.or_eq_true, rdOf_get hi, rd46 h1]
  have hc : (clauseF l0 l1 i).any cyc = false := by
    unfold clauseF
    split <;> rfl
  rw [hc]
  simp only [Bool.false_eq_true, false_or]
  unfold importsF
  rw [List.any_flatMap, List.any_eq_true]
  refine exists_congr fun m => and_congr_right fun hm => ?_
  unfold importF
  by_cases hp : m.f1 ∉ foldersF l0
  · rw [if_pos hp]
    exact ⟨fun h => absurd h (by simp [cyc]), fun h => absurd h.1 hp⟩
  · rw [if_neg hp]
    have hp' := Classical.not_not.1 hp
    by_cases hr : m.f1 = folderF l0[i] ∨ Imp.Reach (fun a b => edgeF l0 l1 a b = true) m.f1 (folderF l0[i])
    · rw [if_pos hr]
      exact ⟨fun _ => ⟨hp', hr⟩, fun _ => rfl⟩
    · rw [if_neg hr]
      exact ⟨fun h => absurd h (by decide), fun h => absurd h.2 hr⟩
/-- The first step of a way. -/
theorem first_step {E : ByteArray → ByteArray → Prop} {a b : ByteArray} (h : Imp.Reach E a b) : ∃ p, E a p ∧ (p = b ∨ Imp.Reach E p b) := by
  induction h with
  | one h => exact ⟨_, h, .inl rfl⟩
  | step _ h2 ih =>
    obtain ⟨p, hp, hr⟩ := ih
    refine ⟨p, hp, .inr ?_⟩
    rcases hr with rfl | hr
    · exact .one h2
    · exact .step hr h2
theorem edge_nodes {l0 : List ByteArray} {l1 : List S46} (hok : ∀ s ∈ l0, okN s = true) (a b : ByteArray) (h : edgeF l0 l1 a b = true) : a ∈ foldersF l0 ∧ b ∈ foldersF l0 := by
  obtain ⟨i, hi, _, rfl, _⟩ := of_edge h
  exact ⟨(mem_foldersF l0 _).2 ⟨l0[i], List.getElem_mem hi, hok _ (List.getElem_mem hi), rfl⟩, edgeF_in _ _ h⟩
theorem rows_ring {l0 : List ByteArray} {l1 : List S46} (hr : rightF l0 l1 = 0) : (checkF l0 l1).any (fun r => r.any cyc) = decide (((second (foldersF l0) (edgeF l0 l1)).length : Int) > 0) := by
  have hl := right_len hr
  have hok := right_all hr
  have key : (checkF l0 l1).any (fun r => r.any cyc) = true ↔ second (foldersF l0) (edgeF l0 l1) ≠ [] := by
    rw [second_ring (edge_nodes hok)]
    unfold checkF rowsOf
    rw [if_pos hr, List.any_map, List.any_eq_true]
    constructor
    · rintro ⟨i, hi, h⟩
      have hi0 := List.mem_range.1 hi
      obtain ⟨m, hm, hp, hor⟩ := (rowF_cyc hi0 (by omega)).1 h
      have he := edge_of hi0 (by omega) hm hp
      refine ⟨folderF l0[i], ?_⟩
      rcases hor with e | hre
      · rw [e] at he
        exact .one he
      · exact Imp.Reach.front he hre
    · rintro ⟨f, hf⟩
      obtain ⟨p, hp, hor⟩ := first_step hf
      obtain ⟨i, hi, h1, rfl, m, hm, rfl⟩ := of_edge hp
      exact ⟨i, List.mem_range.2 hi, (rowF_cyc hi h1).2 ⟨m, hm, edgeF_in _ _ hp, hor⟩⟩
  rw [Bool.eq_iff_iff, key, decide_eq_true_eq]
  constructor
  · intro h
    have := List.length_pos_iff.2 h
    omega
  · intro h e
    rw [e] at h
    exact absurd h (by decide)
/-! ### the law's loops -/
section
variable {l0 : List ByteArray} {l1 : List S46} {A B F : List ByteArray} {r : Bool}
theorem stand_l0 (hF : F.length < 1048577) (hA : A.length < 1073741824) (hB : B.length < 1073741824) (hx : ∀ x ∈ F, (x ∈ A ↔ x ∉ B)) (h : Ev (fun k => scholiastlaw13_ImportsStand.l1 k l0 l1 A B F 0) r) :
    ∀ n i, F.length - i = n → i ≤ F.length → Ev (fun k => scholiastlaw13_ImportsStand.l0 k l0 l1 A B F (i : Int)) r := by
  intro n
  induction n with
  | zero =>
    intro i hn hi
    exact Ev.step (fun k => scholiastlaw13_ImportsStand.l0.eq_2 _ _ _ _ _ _ k) (ev_neg (by omega) h)
  | succ n ih =>
    intro i hn hi
    have hil : i < F.length := by omega
    refine Ev.step (fun k => scholiastlaw13_ImportsStand.l0.eq_2 _ _ _ _ _ _ k) (ev_pos (by omega) (ev_pos (by omega) ?_))
    rw [rdOf_get hil, wrap_next hil (by omega)]
    refine Ev.bind (place_ev A _ hA) (Ev.bind (place_ev B _ hB) (ev_neg ?_ (ih (i + 1) (by omega) (by omega))))
    have := hx F[i] (List.getElem_mem hil)
    by_cases ha : F[i] ∈ A
    · rw [decide_eq_true (placeF_ge.2 ha), decide_eq_false (fun h' => this.1 ha (placeF_ge.1 h'))]
      decide
    · have hb : F[i] ∈ B := Classical.byContradiction fun hb => ha (this.2 hb)
      rw [decide_eq_false (fun h' => ha (placeF_ge.1 h')), decide_eq_true (placeF_ge.2 hb)]
      decide
theorem stand_l2 (hF : F.length < 1048577) (hA : A.length < 1073741824) {i : Nat} (hi : i < l1.length) (hm : (l1[i]).f1.length < 1048577) {kx : Int} (hok : ∀ m ∈ (l1[i]).f1, m.f1 ∈ F → kx ≥ 0 → ¬ placeF A m.f1 < 0 ∧ ¬ placeF A m.f1 ≥ kx)
    (h : Ev (fun k => scholiastlaw13_ImportsStand.l1 k l0 l1 A B F (wrap64 ((i : Int) + 1))) r) :
    ∀ n j, (l1[i]).f1.length - j = n → j ≤ (l1[i]).f1.length → Ev (fun k => scholiastlaw13_ImportsStand.l2 k l0 l1 A B F (i : Int) kx (j : Int)) r := by
  intro n
  induction n with
  | zero =>
    intro j hn hj
    refine Ev.step (fun k => scholiastlaw13_ImportsStand.l2.eq_2 _ _ _ _ _ _ _ _ k) (ev_pos (by omega) (ev_pos (by omega) ?_))
    rw [rd46 hi]
    exact ev_neg (by omega) (Ev.step (fun k => scholiastlaw13_ImportsStand.j4.eq_2 _ _ _ _ _ _ _ _ _ k) (ev_neg (by decide) h))
  | succ n ih =>
    intro j hn hj
    have hjl : j < (l1[i]).f1.length := by omega
    refine Ev.step (fun k => scholiastlaw13_ImportsStand.l2.eq_2 _ _ _ _ _ _ _ _ k) (ev_pos (by omega) (ev_pos (by omega) ?_))
    rw [rd46 hi]
    refine ev_pos (by omega) (Ev.step (fun k => scholiastlaw13_ImportsStand.j4.eq_2 _ _ _ _ _ _ _ _ _ k) ?_)
    by_cases hk : kx ≥ 0
    · refine ev_pos (decide_eq_true hk) (ev_pos (by omega) (ev_pos (by omega) (ev_pos (by omega) ?_)))
      rw [rd46 hi, rd48 hjl, wrap_next hjl (by omega)]
      refine ev_pos (by omega) (Ev.bind (place_ev F _ (by omega)) ?_)
      by_cases hp : (l1[i]).f1[j].f1 ∈ F
      · obtain ⟨h1, h2⟩ := hok _ (List.getElem_mem hjl) hp hk
        exact ev_pos (placeF_ge.2 hp) (Ev.bind (place_ev A _ hA) (ev_neg h1 (Ev.bind (place_ev A _ hA) (ev_neg h2 (ih (j + 1) (by omega) (by omega))))))
      · exact ev_neg (fun h' => hp (placeF_ge.1 h')) (ih (j + 1) (by omega) (by omega))
    · exact ev_neg (by rw [decide_eq_false hk]; decide) h
theorem stand_l4 {rows : List (List S52)} {e : Int} {i : Nat} (hi : i < rows.length) (hr : (rows[i]).length < 1073741824) : ∀ n j b, (rows[i]).length - j = n → j ≤ (rows[i]).length → Ev (fun k => scholiastlaw13_ImportsStand.l3 k B rows e (b || ((rows[i]).drop j).any cyc) (wrap64 ((i : Int) + 1))) r →
    Ev (fun k => scholiastlaw13_ImportsStand.l4 k B rows e b (i : Int) (j : Int)) r := by
  have hrd : rd_L14 rows (i : Int) = rows[i] := by simp [rd_L14, List.getD, hi]
  intro n
  induction n with
  | zero =>
    intro j b hn hj h
    refine Ev.step (fun k => scholiastlaw13_ImportsStand.l4.eq_2 _ _ _ _ _ _ k) (ev_pos (by omega) (ev_pos (by omega) ?_))
    rw [hrd]
    rw [List.drop_of_length_le (by omega), List.any_nil, Bool.or_false] at h
    exact ev_neg (by omega) h
  | succ n ih =>
    intro j b hn hj h
    have hjl : j < (rows[i]).length := by omega
    refine Ev.step (fun k => scholiastlaw13_ImportsStand.l4.eq_2 _ _ _ _ _ _ k) (ev_pos (by omega) (ev_pos (by omega) ?_))
    rw [hrd, wrap_next hjl (by omega)]
    refine ev_pos (by omega) ?_
    rw [List.drop_eq_getElem_cons hjl, List.any_cons] at h
    cases b
    · refine ev_neg (by decide) (ev_pos (by omega) ?_)
      have h5 : rd_T52 (rows[i]) (j : Int) = (rows[i])[j] := by simp [rd_T52, List.getD, hjl]
      rw [h5]
      refine ih (j + 1) _ (by omega) (by omega) ?_
      rw [Bool.false_or] at h
      exact h
    · refine ev_pos rfl (ih (j + 1) true (by omega) (by omega) ?_)
      rw [Bool.true_or] at h ⊢
      exact h
theorem stand_l3 {rows : List (List S52)} (hl : rows.length < 1048577) (hr : ∀ r ∈ rows, r.length < 1073741824) : ∀ n i b, rows.length - i = n → i ≤ rows.length → Ev (fun k => scholiastlaw13_ImportsStand.l3 k B rows 0 b (i : Int)) ((b || (rows.drop i).any (fun r => r.any cyc)) == decide ((B.length : Int) > 0)) := by
  intro n
  induction n with
  | zero =>
    intro i b hn hi
    refine Ev.step (fun k => scholiastlaw13_ImportsStand.l3.eq_2 _ _ _ _ _ k) (ev_neg (by omega) (ev_pos rfl ?_))
    rw [List.drop_of_length_le (by omega), List.any_nil, Bool.or_false]
    exact Ev.now _
  | succ n ih =>
    intro i b hn hi
    have hil : i < rows.length := by omega
    refine Ev.step (fun k => scholiastlaw13_ImportsStand.l3.eq_2 _ _ _ _ _ k) (ev_pos (by omega) ?_)
    refine stand_l4 hil (hr _ (List.getElem_mem hil)) _ 0 b rfl (Nat.zero_le _) ?_
    rw [List.drop_zero, wrap_next hil (by omega), List.drop_eq_getElem_cons hil, List.any_cons, ← Bool.or_assoc]
    exact ih (i + 1) _ (by omega) (by omega)
end
theorem Check_f {l0 : List ByteArray} {l1 : List S46} (hS : Small l0 l1) : imports_Check.f l0 l1 = some (checkF l0 l1, rightF l0 l1) := by
  unfold imports_Check.f
  rw [if_pos hS]
theorem Folders_f {l0 : List ByteArray} {l1 : List S46} (hS : Small l0 l1) : imports_Folders.f l0 = some (foldersF l0) := by
  unfold imports_Folders.f
  rw [if_pos ⟨hS.1, hS.2.1⟩]
theorem rowF_len {l0 : List ByteArray} {l1 : List S46} {i : Nat} (h1 : i < l1.length) (hm : (l1[i]).f1.length < 1048577) : (rowF l0 l1 i).length < 1073741824 := by
  unfold rowF
  have := clauseF_len l0 l1 i
  have h2 := importsF_len l0 l1 (folderF (rdOf ByteArray.empty l0 (i : Int))) (rd_T46 l1 (i : Int)).f1
  rw [List.length_append]
  rw [rd46 h1] at h2 ⊢
  omega
theorem filter_parts (p : ByteArray → Bool) : ∀ l : List ByteArray, (l.filter p).length + (l.filter (fun x => !p x)).length = l.length
  | [] => rfl
  | a :: l => by
    have ih := filter_parts p l
    cases h : p a
    · rw [List.filter_cons_of_neg (by simp [h]), List.filter_cons_of_pos (by simp [h]), List.length_cons, List.length_cons]
      omega
    · rw [List.filter_cons_of_pos h, List.filter_cons_of_neg (by simp [h]), List.length_cons, List.length_cons]
      omega
theorem foldersF_nodup (l : List ByteArray) : (foldersF l).Nodup := rising_nodup ordS (foldersF_rising l)
theorem ImportsStand_pure (l0 : List ByteArray) (l1 : List S46) (hl0 : l0.length < 1048577) (hs : ∀ s ∈ l0, s.size < 1048577) (hl1 : l1.length < 1048577) (ho : ∀ o ∈ l1, OutLe o 1048577) : ∃ k, scholiastlaw13_ImportsStand.f k l0 l1 = some true := by
  refine Ev.rounds (g := fun k => scholiastlaw13_ImportsStand.f k l0 l1) ?_
  unfold scholiastlaw13_ImportsStand.f
  refine Ev.bind (wide_ev l0 l1 hl0 hl1 (fun o h => (ho o h).len)) ?_
  by_cases hw : 1024 < l0.length + l1.length + total l1
  · exact ev_pos (decide_eq_true hw) (Ev.now _)
  · refine ev_neg (by simpa using hw) ?_
    have hS := small_of hs ho hw
    refine ev_let (Order_f hS) (Ev.bind (order_ev hS) (ev_pos rfl ?_))
    refine Ev.step (fun k => scholiastlaw13_ImportsStand.j0.eq_2 _ _ _ _ _ _ _ k) ?_
    by_cases hr : rightF l0 l1 = 0
    · have hA : ordA l0 l1 = first (foldersF l0) (edgeF l0 l1) := if_pos hr
      have hB : ordB l0 l1 = second (foldersF l0) (edgeF l0 l1) := if_pos hr
      have hal := ordA_len hS
      have hbl := ordB_len hS
      rw [hA] at hal ⊢
      rw [hB] at hbl ⊢
      simp only [hr]
      refine ev_neg (by decide) (ev_let (Folders_f hS) ?_)
      have hPl := first_placed (foldersF l0) (edgeF l0 l1)
      have hfl := foldersF_length l0
      have hsum : (first (foldersF l0) (edgeF l0 l1)).length + (second (foldersF l0) (edgeF l0 l1)).length = (foldersF l0).length := by
        have h1 : ((foldersF l0).filter fun f => decide (f ∈ first (foldersF l0) (edgeF l0 l1))).length = (first (foldersF l0) (edgeF l0 l1)).length :=
          Nat.le_antisymm (subset_length ((foldersF_nodup l0).filter _) (fun x hx => of_decide_eq_true (List.mem_filter.1 hx).2)) (subset_length hPl.1 (fun x hx => List.mem_filter.2 ⟨hPl.2.1 x hx, decide_eq_true hx⟩))
        have h2 := filter_parts (fun f => decide (f ∈ first (foldersF l0) (edgeF l0 l1))) (foldersF l0)
        rw [h1] at h2
        rw [leftF_second]
        exact h2
      rw [wrap_id (by omega) (by omega)]
      refine ev_pos (by omega) ?_
      have hlen := right_len hr
      have hok := right_all hr
      have hrl : (checkF l0 l1).length < 1048577 := by unfold checkF; rw [if_pos hr, rowsOf_length]; omega
      have hml : ∀ i (hi : i < l1.length), (l1[i]).f1.length < 1048577 := fun i hi => (ho _ (List.getElem_mem hi)).len
      have h3 : Ev (fun k => scholiastlaw13_ImportsStand.l3 k (second (foldersF l0) (edgeF l0 l1)) (checkF l0 l1) 0 false 0) true := by
        have := stand_l3 (B := second (foldersF l0) (edgeF l0 l1)) hrl (fun r hr' => by
          unfold checkF rowsOf at hr'
          rw [if_pos hr] at hr'
          obtain ⟨i, hi, rfl⟩ := List.mem_map.1 hr'
          have := List.mem_range.1 hi
          exact rowF_len (by omega) (hml i (by omega))) _ 0 false rfl (Nat.zero_le _)
        rw [List.drop_zero, Bool.false_or, rows_ring hr, beq_self_eq_true] at this
        exact this
      have h1 : ∀ n i, l0.length - i = n → i ≤ l0.length → Ev (fun k => scholiastlaw13_ImportsStand.l1 k l0 l1 (first (foldersF l0) (edgeF l0 l1)) (second (foldersF l0) (edgeF l0 l1)) (foldersF l0) (i : Int)) true := by
        intro n
        induction n with
        | zero =>
          intro i hn hi
          refine Ev.step (fun k => scholiastlaw13_ImportsStand.l1.eq_2 _ _ _ _ _ _ k) (ev_neg (by omega) (ev_let (Check_f hS) ?_))
          simp only [hr]
          exact h3
        | succ n ih =>
          intro i hn hi
          have hil : i < l0.length := by omega
          have hi1 : i < l1.length := by omega
          refine Ev.step (fun k => scholiastlaw13_ImportsStand.l1.eq_2 _ _ _ _ _ _ k) (ev_pos (by omega) (ev_pos (by omega) ?_))
          rw [rdOf_get hil]
          refine Ev.bind (prog_Split_ev _ (hs _ (List.getElem_mem hil))) (Ev.bind (place_ev _ _ hal) ?_)
          refine stand_l2 (by omega) hal hi1 (hml i hi1) (fun m hm hp hk => ?_) ?_ _ 0 rfl (Nat.zero_le _)
          · have hf : folderF l0[i] ∈ first (foldersF l0) (edgeF l0 l1) := placeF_ge.1 hk
            obtain ⟨h1, h2⟩ := placed_ahead hPl hf hp (edge_of hil hi1 hm hp)
            have e1 := placeF_in h1
            have e2 : placeF (first (foldersF l0) (edgeF l0 l1)) (splitF l0[i]).1 = _ := placeF_in hf
            rw [e1, e2]
            unfold folderF at h2
            omega
          · rw [wrap_next hil (by omega)]
            exact ih (i + 1) (by omega) (by omega)
      refine stand_l0 (by omega) hal hbl (fun x hx => ?_) (h1 _ 0 rfl (Nat.zero_le _)) _ 0 rfl (Nat.zero_le _)
      rw [leftF_second, mem_leftF]
      exact ⟨fun h h' => h'.2 h, fun h => Classical.byContradiction fun h' => h ⟨hx, h'⟩⟩
    · refine ev_pos (by simpa using hr) ?_
      rw [beq_self_eq_true]
      exact Ev.now _
end Go.Proofs.YtcejdokeaoklaaaDoor.PImp
