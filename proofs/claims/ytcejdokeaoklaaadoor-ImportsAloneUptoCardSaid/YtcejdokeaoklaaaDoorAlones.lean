import Derived.Test.YtcejdokeaoklaaaDoorPlain
import Derived.Test.YtcejdokeaoklaaaDoorChecks
import Derived.Test.YtcejdokeaoklaaaDoorLists
import Derived.Test.YtcejdokeaoklaaaDoorPImpx18
import Derived.Test.YtcejdokeaoklaaaDoorPImpx16
import Derived.Test.YtcejdokeaoklaaaDoorPImpx0
import Derived.Test.YtcejdokeaoklaaaDoorPImpx9
import Derived.Test.YtcejdokeaoklaaaDoorMore
import Derived.Deep.DeepCutAuto
/-! PLAIN LAWS: where a text stands; who imports whom, by the files. -/
set_option linter.unusedVariables false
namespace Go.Proofs.YtcejdokeaoklaaaDoor.PImp
open Go.RowKit Go.Proofs.YtcejdokeaoklaaaDoorW.PrintWords Go.Proofs.YtcejdokeaoklaaaDoorW.PrintLast Go.Proofs.YtcejdokeaoklaaaDoorW.PrintMore
open Go.Proofs.YtcejdokeaoklaaaDoor.Imp
/-! ### where a text stands in a list -/
def pI (l : List ByteArray) (s : ByteArray) : Nat := l.findIdx fun x => decide (x = s)
def placeF (l : List ByteArray) (s : ByteArray) : Int := if pI l s < l.length then (pI l s : Int) else -1
theorem pI_get {l : List ByteArray} {s : ByteArray} (h : pI l s < l.length) : l[pI l s] = s := of_decide_eq_true (List.findIdx_getElem (w := h))
theorem pI_le {l : List ByteArray} {j : Nat} (hj : j < l.length) : pI l l[j] ≤ j := by
  unfold pI
  refine Nat.le_of_not_lt fun h => ?_
  have := List.not_of_lt_findIdx h
  simp at this
theorem pI_lt {l : List ByteArray} {s : ByteArray} : pI l s < l.length ↔ s ∈ l := by
  constructor
  · intro h
    have := List.getElem_mem h
    rwa [pI_get h] at this
  · intro h
    obtain ⟨j, hj, rfl⟩ := List.getElem_of_mem h
    have := pI_le hj
    omega
theorem placeF_in {l : List ByteArray} {s : ByteArray} (h : s ∈ l) : placeF l s = (pI l s : Int) := if_pos (pI_lt.2 h)
theorem placeF_out {l : List ByteArray} {s : ByteArray} (h : s ∉ l) : placeF l s = -1 := if_neg (fun h' => h (pI_lt.1 h'))
theorem placeF_ge {l : List ByteArray} {s : ByteArray} : placeF l s ≥ 0 ↔ s ∈ l := by
  by_cases h : s ∈ l
  · rw [placeF_in h]
    exact ⟨fun _ => h, fun _ => by omega⟩
  · rw [placeF_out h]
    exact ⟨fun h' => by omega, fun h' => absurd h' h⟩
theorem place_l0 (l : List ByteArray) (s : ByteArray) (hl : l.length < 1073741824) : ∀ n i, l.length - i = n → i ≤ l.length → (∀ j (hj : j < l.length), j < i → l[j] ≠ s) → Ev (fun k => lw_place.l0 k l s (i : Int)) (placeF l s) := by
  intro n
  induction n with
  | zero =>
    intro i hn hi hno
    refine Ev.step (fun k => lw_place.l0.eq_2 _ _ _ k) (ev_neg (by omega) ?_)
    rw [placeF_out (fun h => by obtain ⟨j, hj, e⟩ := List.getElem_of_mem h; exact hno j hj (by omega) e)]
    exact Ev.now _
  | succ n ih =>
    intro i hn hi hno
    have hil : i < l.length := by omega
    refine Ev.step (fun k => lw_place.l0.eq_2 _ _ _ k) (ev_pos (by omega) (ev_pos (by omega) ?_))
    rw [rdOf_get hil]
    by_cases h : l[i] = s
    · refine ev_pos (toList_inj.2 h) ?_
      have hm : s ∈ l := h ▸ List.getElem_mem hil
      have h1 : pI l s ≤ i := by have := pI_le hil; rwa [h] at this
      have h2 : pI l s = i := by
        have hlt := pI_lt.2 hm
        refine Nat.le_antisymm h1 (Nat.le_of_not_lt fun hc => ?_)
        exact hno _ hlt hc (pI_get hlt)
      rw [placeF_in hm, h2]
      exact Ev.now _
    · refine ev_neg (fun e => h (toList_inj.1 e)) ?_
      rw [wrap_next hil (by omega)]
      refine ih (i + 1) (by omega) (by omega) fun j hj hji => ?_
      by_cases e : j = i
      · subst e
        exact h
      · exact hno j hj (by omega)
theorem place_ev (l : List ByteArray) (s : ByteArray) (hl : l.length < 1073741824) : Ev (fun k => lw_place.f k l s) (placeF l s) := place_l0 l s hl _ 0 rfl (Nat.zero_le _) (fun _ _ h => by omega)
/-- In what is placed, whom one imports stands ahead. -/
theorem placed_ahead {all : List ByteArray} {edge : ByteArray → ByteArray → Bool} {d : List ByteArray} (h : Placed all edge d) {f p : ByteArray} (hf : f ∈ d) (hp : p ∈ all) (he : edge f p = true) : p ∈ d ∧ pI d p < pI d f := by
  have hlt := pI_lt.2 hf
  have hd : d = d.take (pI d f) ++ f :: d.drop (pI d f + 1) := by
    conv => lhs; rw [← List.take_append_drop (pI d f) d, List.drop_eq_getElem_cons hlt, pI_get hlt]
  have hm := h.2.2 _ f _ hd p hp he
  obtain ⟨j, hj, e⟩ := List.getElem_of_mem hm
  rw [List.length_take] at hj
  rw [List.getElem_take] at e
  have hjl : j < d.length := by omega
  have := pI_le hjl
  rw [e] at this
  exact ⟨List.mem_of_mem_take hm, by omega⟩
/-! ### who imports whom, by the files -/
theorem edge_of {l0 : List ByteArray} {l1 : List S46} {i : Nat} (hi : i < l0.length) (h1 : i < l1.length) {m : S48} (hm : m ∈ l1[i].f1) (hp : m.f1 ∈ foldersF l0) : edgeF l0 l1 (folderF l0[i]) m.f1 = true := by
  unfold edgeF edgeE
  rw [Bool.and_eq_true]
  refine ⟨decide_eq_true ?_, decide_eq_true hp⟩
  unfold allPairs
  rw [List.mem_flatMap]
  have hz : i < (l0.zip l1).length := by rw [List.length_zip]; omega
  refine ⟨(l0.zip l1)[i], List.getElem_mem hz, ?_⟩
  rw [List.getElem_zip]
  exact List.mem_map.2 ⟨m, hm, rfl⟩
theorem of_edge {l0 : List ByteArray} {l1 : List S46} {a b : ByteArray} (h : edgeF l0 l1 a b = true) : ∃ (i : Nat) (hi : i < l0.length) (h1 : i < l1.length), folderF l0[i] = a ∧ ∃ m ∈ l1[i].f1, m.f1 = b := by
  unfold edgeF edgeE at h
  rw [Bool.and_eq_true] at h
  have hm := of_decide_eq_true h.1
  unfold allPairs at hm
  rw [List.mem_flatMap] at hm
  obtain ⟨x, hx, hm⟩ := hm
  obtain ⟨i, hi, rfl⟩ := List.getElem_of_mem hx
  rw [List.getElem_zip] at hm
  obtain ⟨m, hm, e⟩ := List.mem_map.1 hm
  rw [Prod.mk.injEq] at e
  rw [List.length_zip] at hi
  exact ⟨i, by omega, by omega, e.1, m, hm, e.2⟩
/-- The first step of a way. -/
theorem first_step {E : ByteArray → ByteArray → Prop} {a b : ByteArray} (h : Imp.Reach E a b) : ∃ p, E a p ∧ (p = b ∨ Imp.Reach E p b) := by
  induction h with
  | one h => exact ⟨_, h, .inl rfl⟩
  | step _ h2 ih =>
    obtain ⟨p, hp, hr⟩ := ih
    refine ⟨p, hp, .inr ?_⟩
    rcases hr with rfl | hr
    · exact .one h2
    · exact .step hr h2
theorem edge_nodes {l0 : List ByteArray} {l1 : List S46} (hok : ∀ s ∈ l0, okN s = true) (a b : ByteArray) (h : edgeF l0 l1 a b = true) : a ∈ foldersF l0 ∧ b ∈ foldersF l0 := by
  obtain ⟨i, hi, _, rfl, _⟩ := of_edge h
  exact ⟨(mem_foldersF l0 _).2 ⟨l0[i], List.getElem_mem hi, hok _ (List.getElem_mem hi), rfl⟩, edgeF_in _ _ h⟩
theorem filter_parts (p : ByteArray → Bool) : ∀ l : List ByteArray, (l.filter p).length + (l.filter (fun x => !p x)).length = l.length
  | [] => rfl
  | a :: l => by
    have ih := filter_parts p l
    cases h : p a
    · rw [List.filter_cons_of_neg (by simp [h]), List.filter_cons_of_pos (by simp [h]), List.length_cons, List.length_cons]
      omega
    · rw [List.filter_cons_of_pos h, List.filter_cons_of_neg (by simp [h]), List.length_cons, List.length_cons]
      omega
theorem foldersF_nodup (l : List ByteArray) : (foldersF l).Nodup := rising_nodup ordS (foldersF_rising l)
theorem Check_f {l0 : List ByteArray} {l1 : List S46} (hS : Small l0 l1) : imports_Check.f l0 l1 = some (checkF l0 l1, rightF l0 l1) := by
  unfold imports_Check.f
  rw [if_pos hS]
theorem Folders_f {l0 : List ByteArray} {l1 : List S46} (hS : Small l0 l1) : imports_Folders.f l0 = some (foldersF l0) := by
  unfold imports_Folders.f
  rw [if_pos ⟨hS.1, hS.2.1⟩]
end Go.Proofs.YtcejdokeaoklaaaDoor.PImp
/-! PLAIN LAWS: a file in a folder that nobody imports, and that imports nothing. -/
set_option linter.unusedVariables false
namespace Go.Proofs.YtcejdokeaoklaaaDoor.PImp
open Go.RowKit Go.Proofs.YtcejdokeaoklaaaDoorW.PrintWords Go.Proofs.YtcejdokeaoklaaaDoorW.PrintLast Go.Proofs.YtcejdokeaoklaaaDoorW.PrintMore
open Go.Proofs.YtcejdokeaoklaaaDoor.Imp
/-! ### graphs: one node more, that nobody leads to and that leads to nobody -/
section
variable {F F' : List ByteArray} {E : ByteArray → ByteArray → Bool} {fd : ByteArray}
theorem first_or_second {x : ByteArray} (h : x ∈ F) : x ∈ first F E ∨ x ∈ second F E := by
  by_cases h' : x ∈ first F E
  · exact .inl h'
  · refine .inr ?_
    rw [leftF_second, mem_leftF]
    exact ⟨h, h'⟩
/-- Who is left over comes to a ring. -/
theorem second_iff (hE : ∀ a b, E a b = true → a ∈ F ∧ b ∈ F) (x : ByteArray) : x ∈ second F E ↔ x ∈ F ∧ ∃ y, (x = y ∨ Imp.Reach (fun a b => E a b = true) x y) ∧ Imp.Reach (fun a b => E a b = true) y y := by
  constructor
  · intro h
    have hx : x ∈ F := by
      rw [leftF_second, mem_leftF] at h
      exact h.1
    refine ⟨hx, ?_⟩
    have hm : ∀ y, y ∈ (second F E).filter (fun y => @decide (x = y ∨ Imp.Reach (fun a b => E a b = true) x y) (Classical.propDecidable _)) ↔ y ∈ second F E ∧ (x = y ∨ Imp.Reach (fun a b => E a b = true) x y) := by
      intro y
      rw [List.mem_filter]
      simp only [decide_eq_true_eq]
    obtain ⟨y, hy, hr⟩ := ring_of_stuck _ (fun a b => E a b = true) _ (Nat.le_refl _) (List.ne_nil_of_mem ((hm x).2 ⟨h, .inl rfl⟩)) (fun z hz => by
      obtain ⟨hz1, hz2⟩ := (hm z).1 hz
      obtain ⟨t, ht, he⟩ := Imp.stuck hz1
      refine ⟨t, (hm t).2 ⟨ht, .inr ?_⟩, he⟩
      rcases hz2 with rfl | hz2
      · exact .one he
      · exact .step hz2 he)
    exact ⟨y, ((hm y).1 hy).2, hr⟩
  · rintro ⟨hx, y, hxy, hyy⟩
    refine (first_or_second hx).resolve_left fun hf => ?_
    have hPl := first_placed F E
    have hcl : ∀ a b, a ∈ first F E → E a b = true → b ∈ first F E := fun a b ha hab => (placed_ahead hPl ha (hE a b hab).2 hab).1
    have hyf : y ∈ first F E := by
      rcases hxy with rfl | hxy
      · exact hf
      · exact hxy.in_closed (S := fun z => z ∈ first F E) (fun b hb => hcl x b hf hb) (fun b c hb hbc => hcl b c hb hbc)
    exact ring_not_placed hPl (fun a b h => (hE a b h).2) hyf hyy
theorem sum_len (hn : F.Nodup) : (first F E).length + (second F E).length = F.length := by
  have hPl := first_placed F E
  have h1 : (F.filter fun f => decide (f ∈ first F E)).length = (first F E).length :=
    Nat.le_antisymm (subset_length (hn.filter _) (fun x hx => of_decide_eq_true (List.mem_filter.1 hx).2)) (subset_length hPl.1 (fun x hx => List.mem_filter.2 ⟨hPl.2.1 x hx, decide_eq_true hx⟩))
  have h2 := filter_parts (fun f => decide (f ∈ first F E)) F
  rw [h1] at h2
  rw [leftF_second]
  exact h2
theorem second_rising (hr : Rising ltS F) : Rising ltS (second F E) := by
  rw [leftF_second]
  exact List.Pairwise.filter _ hr
theorem second_alone (hr : Rising ltS F) (hr' : Rising ltS F') (hm : ∀ x, x ∈ F' ↔ x = fd ∨ x ∈ F) (hfd : fd ∉ F) (hE : ∀ a b, E a b = true → a ∈ F ∧ b ∈ F) : second F' E = second F E := by
  refine rising_ext ordS (second_rising hr') (second_rising hr) fun x => ?_
  rw [second_iff (fun a b h => ⟨(hm a).2 (.inr (hE a b h).1), (hm b).2 (.inr (hE a b h).2)⟩), second_iff hE, hm]
  constructor
  · rintro ⟨hx, y, hxy, hyy⟩
    refine ⟨hx.resolve_left fun e => ?_, y, hxy, hyy⟩
    subst e
    have hout : ∀ z, ¬ Imp.Reach (fun a b => E a b = true) x z := fun z hz => by
      obtain ⟨p, hp, _⟩ := first_step hz
      exact hfd (hE _ _ hp).1
    rcases hxy with rfl | hxy
    · exact hout _ hyy
    · exact hout _ hxy
  · rintro ⟨hx, h⟩
    exact ⟨.inr hx, h⟩
theorem first_alone (hr : Rising ltS F) (hr' : Rising ltS F') (hm : ∀ x, x ∈ F' ↔ x = fd ∨ x ∈ F) (hfd : fd ∉ F) (hE : ∀ a b, E a b = true → a ∈ F ∧ b ∈ F) : (first F' E).length = (first F E).length + 1 := by
  have h1 := sum_len (E := E) (rising_nodup ordS hr)
  have h2 := sum_len (E := E) (rising_nodup ordS hr')
  have h3 : F'.length = F.length + 1 := Nat.le_antisymm (subset_length (all := fd :: F) (rising_nodup ordS hr') (fun x hx => List.mem_cons.2 ((hm x).1 hx)))
    (subset_length (d := fd :: F) (List.nodup_cons.2 ⟨hfd, rising_nodup ordS hr⟩) (fun x hx => (hm x).2 (List.mem_cons.1 hx)))
  rw [second_alone hr hr' hm hfd hE] at h2
  omega
end
/-! ### one more in a list -/
def insL {α : Type} (l : List α) (a : Nat) (x : α) : List α := l.take a ++ x :: l.drop a
def skip (a i : Nat) : Nat := if i < a then i else i + 1
section
variable {α : Type} {l : List α} {a i : Nat} {x : α}
theorem insL_length (l : List α) (a : Nat) (x : α) : (insL l a x).length = l.length + 1 := by
  unfold insL
  rw [List.length_append, List.length_cons, List.length_take, List.length_drop]
  omega
theorem insL_at (ha : a ≤ l.length) (h : a < (insL l a x).length) : (insL l a x)[a] = x := by
  have h2 : (insL l a x)[a]? = some x := by
    unfold insL
    rw [List.getElem?_append_right (by rw [List.length_take]; omega), List.length_take, Nat.min_eq_left ha, Nat.sub_self]
    rfl
  exact (List.getElem?_eq_some_iff.1 h2).2
theorem insL_skip (ha : a ≤ l.length) (hi : i < l.length) (h : skip a i < (insL l a x).length) : (insL l a x)[skip a i] = l[i] := by
  unfold insL
  by_cases hia : i < a
  · have e : skip a i = i := if_pos hia
    simp only [e]
    rw [List.getElem_append_left (by rw [List.length_take]; omega), List.getElem_take]
  · have e : skip a i = i + 1 := if_neg hia
    simp only [e]
    rw [List.getElem_append_right (by rw [List.length_take]; omega)]
    simp only [List.length_take, Nat.min_eq_left ha]
    rw [List.getElem_cons]
    rw [dif_neg (by omega)]
    rw [List.getElem_drop]
    congr 1
    omega
theorem skip_lt (ha : a ≤ l.length) (hi : i < l.length) (x : α) : skip a i < (insL l a x).length := by
  rw [insL_length]
  unfold skip
  split <;> omega
/-- A place is the new one's, or an old one's. -/
theorem skip_cases (a : Nat) (j : Nat) : j = a ∨ ∃ i, j = skip a i ∧ (j < a → i = j) ∧ (¬ j < a → i + 1 = j) := by
  by_cases h : j < a
  · exact .inr ⟨j, (if_pos h).symm, fun _ => rfl, fun h' => absurd h h'⟩
  · by_cases e : j = a
    · exact .inl e
    · refine .inr ⟨j - 1, ?_, fun h' => absurd h' h, fun _ => by omega⟩
      unfold skip
      rw [if_neg (by omega)]
      omega
theorem mem_insL (ha : a ≤ l.length) {y : α} : y ∈ insL l a x ↔ y = x ∨ y ∈ l := by
  unfold insL
  rw [List.mem_append, List.mem_cons]
  constructor
  · rintro (h | h | h)
    · exact .inr (List.mem_of_mem_take h)
    · exact .inl h
    · exact .inr (List.mem_of_mem_drop h)
  · rintro (h | h)
    · exact .inr (.inl h)
    · rw [← List.take_append_drop a l, List.mem_append] at h
      exact h.elim .inl (fun h => .inr (.inr h))
theorem findIdx_ins {p : α → Bool} (ha : a ≤ l.length) (hx : p x = false) (h : l.findIdx p < l.length) : (insL l a x).findIdx p = skip a (l.findIdx p) := by
  have hs := skip_lt ha h x
  have hp : p (insL l a x)[skip a (l.findIdx p)] = true := by
    rw [insL_skip ha h]
    exact List.findIdx_getElem (w := h)
  have hle : (insL l a x).findIdx p ≤ skip a (l.findIdx p) := Nat.le_of_not_lt fun hlt => by
    have := List.not_of_lt_findIdx hlt
    rw [hp] at this
    cases this
  refine Nat.le_antisymm hle (Nat.le_of_not_lt fun hlt => ?_)
  have hl : (insL l a x).findIdx p < (insL l a x).length := by omega
  have hq := List.findIdx_getElem (w := hl)
  rcases skip_cases a ((insL l a x).findIdx p) with e | ⟨i, e, h1, h2⟩
  · simp only [e] at hq
    rw [insL_at ha] at hq
    rw [hx] at hq
    cases hq
  · have hi : i < l.length := by rw [insL_length] at hl; by_cases h' : (insL l a x).findIdx p < a; · have := h1 h'; omega
                                 · have := h2 h'; omega
    simp only [e] at hq
    rw [insL_skip ha hi] at hq
    have : l.findIdx p ≤ i := Nat.le_of_not_lt fun h' => by
      have := List.not_of_lt_findIdx h'
      rw [hq] at this
      cases this
    rw [e] at hlt
    unfold skip at hlt
    split at hlt <;> split at hlt <;> omega
end
theorem flatMap_same {f g : S48 → List S52} : ∀ (ms : List S48), (∀ m ∈ ms, f m = g m) → ms.flatMap f = ms.flatMap g
  | [], _ => rfl
  | m :: ms, h => by rw [List.flatMap_cons, List.flatMap_cons, h m (by simp), flatMap_same ms (fun x hx => h x (by simp [hx]))]
/-! ### one file more -/
/-- What is asked of the file: it stands in its place, its folder is new, nobody imports it. -/
structure New (l0 : List ByteArray) (l1 : List S46) (name fd : ByteArray) (a : Nat) : Prop where
  right : rightF l0 l1 = 0
  ok : okN name = true
  fold : folderF name = fd
  fresh : fd ∉ foldersF l0
  none : ∀ o ∈ l1, ∀ m ∈ o.f1, m.f1 ≠ fd
  le : a ≤ l0.length
  low : ∀ j (hj : j < l0.length), j < a → ltS l0[j] name = true
  high : ∀ (ha : a < l0.length), ltS l0[a] name = false
def o0 : S46 := ⟨⟨⟨#[]⟩, 0, 0⟩, [], []⟩
section
variable {l0 : List ByteArray} {l1 : List S46} {name fd : ByteArray} {a : Nat} (N : New l0 l1 name fd a)
include N
theorem New.len : l0.length = l1.length := right_len N.right
theorem New.le1 : a ≤ l1.length := by have := N.len; have := N.le; omega
theorem New.mem (x : ByteArray) : x ∈ foldersF (insL l0 a name) ↔ x = fd ∨ x ∈ foldersF l0 := by
  rw [mem_foldersF, mem_foldersF]
  constructor
  · rintro ⟨s, hs, ho, rfl⟩
    rcases (mem_insL N.le).1 hs with rfl | hs
    · exact .inl N.fold
    · exact .inr ⟨s, hs, ho, rfl⟩
  · rintro (rfl | ⟨s, hs, ho, rfl⟩)
    · exact ⟨name, (mem_insL N.le).2 (.inl rfl), N.ok, N.fold⟩
    · exact ⟨s, (mem_insL N.le).2 (.inr hs), ho, rfl⟩
theorem New.rising : Rising ltS (insL l0 a name) := by
  have hr : Rising ltS l0 := by
    have h := N.right
    unfold rightF at h
    split at h
    · cases h
    · split at h
      · cases h
      · split at h
        · rename_i h'
          exact risingB_iff.1 h'
        · cases h
  have hok := right_all N.right
  have hne : ∀ s ∈ l0, s ≠ name := fun s hs e => N.fresh ((mem_foldersF l0 fd).2 ⟨s, hs, hok s hs, by rw [e]; exact N.fold⟩)
  have hlow : ∀ s ∈ l0.take a, ltS s name = true := fun s hs => by
    obtain ⟨j, hj, rfl⟩ := List.getElem_of_mem hs
    rw [List.length_take] at hj
    rw [List.getElem_take]
    exact N.low j (by omega) (by omega)
  have hhigh : ∀ s ∈ l0.drop a, ltS name s = true := fun s hs => by
    obtain ⟨j, hj, rfl⟩ := List.getElem_of_mem hs
    rw [List.length_drop] at hj
    have hal : a < l0.length := by omega
    have h0 : ltS name l0[a] = true := by
      cases h : ltS name l0[a]
      · exact absurd (ordS.tot _ _ (N.high hal) h) (hne _ (List.getElem_mem hal))
      · rfl
    rw [List.getElem_drop]
    by_cases hj0 : j = 0
    · subst hj0
      exact h0
    · exact ordS.tr _ _ _ h0 (List.pairwise_iff_getElem.1 hr a (a + j) hal (by omega) (by omega))
  unfold insL
  unfold Rising at hr ⊢
  rw [List.pairwise_append, List.pairwise_cons]
  refine ⟨hr.sublist (List.take_sublist _ _), ⟨hhigh, hr.sublist (List.drop_sublist _ _)⟩, fun s hs t ht => ?_⟩
  rcases List.mem_cons.1 ht with rfl | ht
  · exact hlow s hs
  · exact ordS.tr _ _ _ (hlow s hs) (hhigh t ht)
theorem New.right' : rightF (insL l0 a name) (insL l1 a o0) = 0 := by
  refine rightF_ok (by rw [insL_length, insL_length, N.len]) (fun s hs => ?_) (risingB_iff.2 N.rising)
  rcases (mem_insL N.le).1 hs with rfl | hs
  · exact N.ok
  · exact right_all N.right s hs
theorem New.edge : edgeF (insL l0 a name) (insL l1 a o0) = edgeF l0 l1 := by
  funext s t
  rw [Bool.eq_iff_iff]
  constructor
  · intro h
    have ht := edgeF_in _ _ h
    obtain ⟨j, hj, hj1, hs, m, hm, rfl⟩ := of_edge h
    rcases skip_cases a j with rfl | ⟨i, rfl, h1, h2⟩
    · rw [insL_at N.le1] at hm
      exact absurd hm (by simp [o0])
    · have hi : i < l0.length := by
        rw [insL_length] at hj
        by_cases h' : skip a i < a
        · have := h1 h'; have := N.le; omega
        · have := h2 h'; omega
      have hi1 : i < l1.length := by rw [← N.len]; exact hi
      rw [insL_skip N.le hi] at hs
      rw [insL_skip N.le1 hi1] at hm
      rw [← hs]
      exact edge_of hi hi1 hm (((N.mem _).1 ht).resolve_left (N.none _ (List.getElem_mem hi1) m hm))
  · intro h
    have ht := edgeF_in _ _ h
    obtain ⟨i, hi, hi1, rfl, m, hm, rfl⟩ := of_edge h
    have e1 := insL_skip (x := name) N.le hi (skip_lt N.le hi _)
    have e2 := insL_skip (x := o0) N.le1 hi1 (skip_lt N.le1 hi1 _)
    have := edge_of (l0 := insL l0 a name) (l1 := insL l1 a o0) (skip_lt N.le hi _) (skip_lt N.le1 hi1 _) (m := m) (by rw [e2]; exact hm) ((N.mem _).2 (.inr ht))
    rw [e1] at this
    exact this
theorem New.nodes (s t : ByteArray) (h : edgeF l0 l1 s t = true) : s ∈ foldersF l0 ∧ t ∈ foldersF l0 := edge_nodes (right_all N.right) s t h
theorem New.second : ordB (insL l0 a name) (insL l1 a o0) = ordB l0 l1 := by
  unfold ordB
  rw [if_pos N.right', if_pos N.right, N.edge]
  exact second_alone (foldersF_rising _) (foldersF_rising _) N.mem N.fresh N.nodes
theorem New.first : (ordA (insL l0 a name) (insL l1 a o0)).length = (ordA l0 l1).length + 1 := by
  unfold ordA
  rw [if_pos N.right', if_pos N.right, N.edge]
  exact first_alone (foldersF_rising _) (foldersF_rising _) N.mem N.fresh N.nodes
theorem New.hd {f : ByteArray} (hf : f ≠ fd) (h : hdI l0 f < l0.length) : hdI (insL l0 a name) f = skip a (hdI l0 f) := by
  unfold hdI at h ⊢
  exact findIdx_ins N.le (decide_eq_false (fun e => hf (by rw [← e]; exact N.fold))) h
theorem New.import {f : ByteArray} {m : S48} (hm : m.f1 ≠ fd) : importF (insL l0 a name) (insL l1 a o0) f m = importF l0 l1 f m := by
  unfold importF
  rw [N.edge]
  by_cases h : m.f1 ∉ foldersF l0
  · rw [if_pos h, if_pos (fun h' => h (((N.mem _).1 h').resolve_left hm))]
  · rw [if_neg h, if_neg (fun h' => h (fun h2 => h' ((N.mem _).2 (.inr h2))))]
theorem New.row {i : Nat} (hi : i < l0.length) : rowF (insL l0 a name) (insL l1 a o0) (skip a i) = rowF l0 l1 i := by
  have hi1 : i < l1.length := by rw [← N.len]; exact hi
  have hs0 := skip_lt N.le hi name
  have hs1 := skip_lt N.le1 hi1 o0
  have hf : folderF l0[i] ≠ fd := fun e => N.fresh ((mem_foldersF l0 fd).2 ⟨l0[i], List.getElem_mem hi, right_all N.right _ (List.getElem_mem hi), e⟩)
  have hhl : hdI l0 (folderF l0[i]) < l0.length := by have := hdI_le hi; omega
  have hh1 : hdI l0 (folderF l0[i]) < l1.length := by rw [← N.len]; exact hhl
  have e0 : rdOf ByteArray.empty (insL l0 a name) (skip a i : Int) = l0[i] := by rw [rdOf_get hs0, insL_skip N.le hi]
  have e1 : rd_T46 (insL l1 a o0) (skip a i : Int) = rd_T46 l1 (i : Int) := by rw [rd46 hs1, insL_skip N.le1 hi1, rd46 hi1]
  have e2 : rd_T46 (insL l1 a o0) (skip a (hdI l0 (folderF l0[i])) : Int) = rd_T46 l1 (hdI l0 (folderF l0[i]) : Int) := by rw [rd46 (skip_lt N.le1 hh1 o0), insL_skip N.le1 hh1, rd46 hh1]
  unfold rowF clauseF
  rw [e0, e1, rdOf_get hi, N.hd hf hhl, e2]
  congr 1
  unfold importsF
  rw [rd46 hi1]
  exact flatMap_same _ fun m hm => N.import (N.none _ (List.getElem_mem hi1) m hm)
theorem New.row0 : rowF (insL l0 a name) (insL l1 a o0) a = [] := by
  have hl := insL_length l0 a name
  have hl1 := insL_length l1 a o0
  have ha : a < (insL l0 a name).length := by have := N.le; omega
  have ha1 : a < (insL l1 a o0).length := by have := N.le1; omega
  have e0 : rdOf ByteArray.empty (insL l0 a name) (a : Int) = name := by rw [rdOf_get ha, insL_at N.le]
  have e1 : rd_T46 (insL l1 a o0) (a : Int) = o0 := by rw [rd46 ha1, insL_at N.le1]
  have hh : hdI (insL l0 a name) fd = a := by
    have h1 := hdI_le ha
    rw [insL_at N.le, N.fold] at h1
    refine Nat.le_antisymm h1 (Nat.le_of_not_lt fun hlt => ?_)
    have hg := hdI_get (l0 := insL l0 a name) (s := fd) (by omega)
    rcases skip_cases a (hdI (insL l0 a name) fd) with e | ⟨i, e, h2, h3⟩
    · omega
    · have hi : i < l0.length := by have := h2 hlt; have := N.le; omega
      simp only [e] at hg
      rw [insL_skip N.le hi] at hg
      exact N.fresh ((mem_foldersF l0 fd).2 ⟨l0[i], List.getElem_mem hi, right_all N.right _ (List.getElem_mem hi), hg⟩)
  unfold rowF clauseF
  rw [e0, e1, N.fold, hh, e1, if_pos rfl]
  rfl
theorem New.check_at : (checkF (insL l0 a name) (insL l1 a o0)).length = l0.length + 1 ∧ (checkF (insL l0 a name) (insL l1 a o0))[a]? = some [] ∧ (checkF (insL l0 a name) (insL l1 a o0)).take a ++ (checkF (insL l0 a name) (insL l1 a o0)).drop (a + 1) = checkF l0 l1 := by
  have ha := N.le
  unfold checkF
  rw [if_pos N.right', if_pos N.right, insL_length]
  refine ⟨rowsOf_length _ _, ?_, ?_⟩
  · rw [List.getElem?_eq_getElem (by rw [rowsOf_length]; omega), rowsOf_get, N.row0]
  · refine List.ext_getElem ?_ fun j h1 h2 => ?_
    · rw [List.length_append, List.length_take, List.length_drop, rowsOf_length, rowsOf_length]
      omega
    · rw [rowsOf_length] at h2
      rw [rowsOf_get]
      have hr := N.row (i := j) h2
      by_cases hj : j < a
      · rw [List.getElem_append_left (by rw [List.length_take, rowsOf_length]; omega), List.getElem_take, rowsOf_get]
        rw [show skip a j = j from if_pos hj] at hr
        exact hr
      · rw [List.getElem_append_right (by rw [List.length_take, rowsOf_length]; omega), List.getElem_drop, rowsOf_get]
        rw [show skip a j = j + 1 from if_neg hj] at hr
        rw [← hr, List.length_take, rowsOf_length]
        congr 1
        omega
end
end Go.Proofs.YtcejdokeaoklaaaDoor.PImp
/-! PLAIN LAW: the document's Check. -/
set_option linter.unusedVariables false
namespace Go.Proofs.YtcejdokeaoklaaaDoor.PImp
open Go.RowKit Go.Proofs.YtcejdokeaoklaaaDoorW.PrintWords Go.Proofs.YtcejdokeaoklaaaDoorW.PrintLast Go.Proofs.YtcejdokeaoklaaaDoorW.PrintMore
open Go.Proofs.YtcejdokeaoklaaaDoor.Imp
theorem importF_out {l0 : List ByteArray} {l1 : List S46} {f : ByteArray} {m : S48} (h : m.f1 ∉ foldersF l0) : importF l0 l1 f m = [⟨301, m.f2, m.f3⟩] := if_pos h
theorem importF_ring {l0 : List ByteArray} {l1 : List S46} {f : ByteArray} {m : S48} (h : m.f1 ∈ foldersF l0) (h2 : m.f1 = f ∨ Imp.Reach (fun a b => edgeF l0 l1 a b = true) m.f1 f) : importF l0 l1 f m = [⟨302, m.f2, m.f3⟩] := by
  unfold importF
  rw [if_neg (fun h' => h' h), if_pos h2]
theorem importF_well {l0 : List ByteArray} {l1 : List S46} {f : ByteArray} {m : S48} (h : m.f1 ∈ foldersF l0) (h2 : ¬ (m.f1 = f ∨ Imp.Reach (fun a b => edgeF l0 l1 a b = true) m.f1 f)) : importF l0 l1 f m = [] := by
  unfold importF
  rw [if_neg (fun h' => h' h), if_neg h2]
theorem importsF_cons (l0 : List ByteArray) (l1 : List S46) (f : ByteArray) (m : S48) (ms : List S48) : importsF l0 l1 f (m :: ms) = importF l0 l1 f m ++ importsF l0 l1 f ms := List.flatMap_cons ..
theorem rowsOf_succ (n : Nat) (F : Nat → List S52) : rowsOf (n + 1) F = rowsOf n F ++ [F n] := by
  unfold rowsOf
  rw [List.range_succ, List.map_append]
  rfl
section
variable {l0 : List ByteArray} {l1 : List S46} (hS : Small l0 l1) (he : l0.length = l1.length)
include hS he
theorem check_l2 {i : Nat} (hi : i < l1.length) (hm : (l1[i]).f1.length < 1048577) (f : ByteArray) (out : List (List S52)) (hout : out.length < 1048577) {r : List (List S52) × Int} {full : List S52}
    (h : Ev (fun k => rf_Check.l0 k l0 l1 (foldersF l0) (out ++ [full]) (wrap64 ((i : Int) + 1))) r) :
    ∀ n j (d : List S52), (l1[i]).f1.length - j = n → j ≤ (l1[i]).f1.length → d.length ≤ j + 1 → full = d ++ importsF l0 l1 f ((l1[i]).f1.drop j) → Ev (fun k => rf_Check.l2 k l0 l1 (foldersF l0) out (i : Int) f d (j : Int)) r := by
  have hfl := foldersF_length l0
  have hL := hS.1
  intro n
  induction n with
  | zero =>
    intro j d hn hj hd hfull
    refine Ev.step (fun k => rf_Check.l2.eq_2 _ _ _ _ _ _ _ _ k) (ev_pos (by omega) (ev_pos (by omega) ?_))
    rw [rd46 hi]
    refine ev_neg (by omega) (ev_pos (by omega) ?_)
    rw [List.drop_of_length_le (by omega), show importsF l0 l1 f [] = [] from rfl, List.append_nil] at hfull
    rw [hfull] at h
    exact h
  | succ n ih =>
    intro j d hn hj hd hfull
    have hjl : j < (l1[i]).f1.length := by omega
    refine Ev.step (fun k => rf_Check.l2.eq_2 _ _ _ _ _ _ _ _ k) (ev_pos (by omega) (ev_pos (by omega) ?_))
    rw [rd46 hi, rd48 hjl, wrap_next hjl (by omega)]
    refine ev_pos (by omega) (ev_pos (by omega) (Ev.bind (has_ev _ _ (by omega)) ?_))
    rw [List.drop_eq_getElem_cons hjl, importsF_cons] at hfull
    generalize (l1[i]).f1[j] = m at hfull ⊢
    by_cases hin : m.f1 ∈ foldersF l0
    · refine ev_pos (decide_eq_true hin) ?_
      have ring : ∀ (h2 : m.f1 = f ∨ Imp.Reach (fun a b => edgeF l0 l1 a b = true) m.f1 f) (a b : ByteArray), Ev (fun k => rf_Check.j4 k l0 l1 (foldersF l0) out (i : Int) f d (j : Int) 0 true a b m.f2 m.f3) r := by
        intro h2 a b
        refine Ev.step (fun k => rf_Check.j4.eq_2 _ _ _ _ _ _ _ _ _ _ _ _ _ _ k) (ev_pos rfl (ev_neg (by decide) (ev_pos (by omega) ?_)))
        rw [wrap_next hjl (by omega)]
        refine ih (j + 1) _ (by omega) (by omega) (by simp; omega) ?_
        rw [hfull, importF_ring hin h2, List.append_assoc]
      by_cases hf : m.f1 = f
      · exact ev_pos (toList_inj.2 hf) (ring (.inl hf) _ _)
      · refine ev_neg (fun e => hf (toList_inj.1 e)) ?_
        obtain ⟨S, hSr, hSe⟩ := reaches_ev hS he m.f1
        refine Ev.bind hSe (Ev.bind (has_ev _ _ (by have := hSr.1; omega)) ?_)
        by_cases hr : f ∈ S
        · rw [decide_eq_true hr]
          exact ring (.inr ((hSr.2 f).1 hr)) _ _
        · rw [decide_eq_false hr]
          refine Ev.step (fun k => rf_Check.j4.eq_2 _ _ _ _ _ _ _ _ _ _ _ _ _ _ k) (ev_neg (by decide) (ev_pos rfl ?_))
          rw [wrap_next hjl (by omega)]
          refine ih (j + 1) _ (by omega) (by omega) (by omega) ?_
          rw [hfull, importF_well hin (fun h' => h'.elim hf (fun h' => hr ((hSr.2 f).2 h'))), List.nil_append]
    · refine ev_neg (by simp [hin]) (ev_neg (by decide) (ev_pos (by omega) ?_))
      refine ih (j + 1) _ (by omega) (by omega) (by simp; omega) ?_
      rw [hfull, importF_out hin, List.append_assoc]
theorem check_l1 {i : Nat} (hi : i < l0.length) (out : List (List S52)) {r : List (List S52) × Int} (h : Ev (fun k => rf_Check.j2 k l0 l1 (foldersF l0) out (i : Int) (folderF l0[i]) (clauseF l0 l1 i)) r) :
    ∀ n j, hdI l0 (folderF l0[i]) - j = n → j ≤ hdI l0 (folderF l0[i]) → Ev (fun k => rf_Check.l1 k l0 l1 (foldersF l0) out (i : Int) (folderF l0[i]) [] (j : Int)) r := by
  have hle := hdI_le hi
  have hL := hS.1
  intro n
  induction n with
  | zero =>
    intro j hn hj
    have ej : j = hdI l0 (folderF l0[i]) := by omega
    have hjl : j < l0.length := by omega
    have hg : folderF l0[j] = folderF l0[i] := by
      have := hdI_get (l0 := l0) (s := folderF l0[i]) (by omega)
      simp only [← ej] at this
      exact this
    refine Ev.step (fun k => rf_Check.l1.eq_2 _ _ _ _ _ _ _ _ k) (ev_pos (by omega) (ev_pos (by omega) ?_))
    rw [rdOf_get hjl]
    refine Ev.bind (ref_Split_ev _ (hS.2.1 _ (List.getElem_mem hjl))) (ev_pos (toList_inj.2 hg) (ev_pos (by omega) (ev_pos (by omega) (ev_pos (by omega) ?_))))
    unfold clauseF at h
    rw [rdOf_get hi, ← ej] at h
    by_cases hn : (rd_T46 l1 (j : Int)).f0.f0 = (rd_T46 l1 (i : Int)).f0.f0
    · rw [if_pos hn] at h
      exact ev_pos (toList_inj.2 hn) h
    · rw [if_neg hn] at h
      exact ev_neg (fun e => hn (toList_inj.1 e)) (ev_pos (by simp) h)
  | succ n ih =>
    intro j hn hj
    have hjl : j < l0.length := by omega
    refine Ev.step (fun k => rf_Check.l1.eq_2 _ _ _ _ _ _ _ _ k) (ev_pos (by omega) (ev_pos (by omega) ?_))
    rw [rdOf_get hjl, wrap_next hjl (by omega)]
    refine Ev.bind (ref_Split_ev _ (hS.2.1 _ (List.getElem_mem hjl))) (ev_neg (fun e => ?_) (ih (j + 1) (by omega) (by omega)))
    have hlt : j < hdI l0 (folderF l0[i]) := by omega
    unfold hdI at hlt
    have := List.not_of_lt_findIdx hlt
    have h5 : ¬ folderF l0[j] = folderF l0[i] := by simpa using this
    exact h5 (toList_inj.1 e)
theorem check_l0 (hm : ∀ i (h : i < l1.length), (l1[i]).f1.length < 1048577) : ∀ n i, l0.length - i = n → i ≤ l0.length → Ev (fun k => rf_Check.l0 k l0 l1 (foldersF l0) (rowsOf i (rowF l0 l1)) (i : Int)) (rowsOf l0.length (rowF l0 l1), 0) := by
  have hL := hS.1
  intro n
  induction n with
  | zero =>
    intro i hn hi
    obtain rfl : i = l0.length := by omega
    exact Ev.step (fun k => rf_Check.l0.eq_2 _ _ _ _ _ k) (ev_neg (by omega) (Ev.now _))
  | succ n ih =>
    intro i hn hi
    have hil : i < l0.length := by omega
    have hi1 : i < l1.length := by omega
    refine Ev.step (fun k => rf_Check.l0.eq_2 _ _ _ _ _ k) (ev_pos (by omega) (ev_pos (by omega) ?_))
    rw [rdOf_get hil]
    refine Ev.bind (ref_Split_ev _ (hS.2.1 _ (List.getElem_mem hil))) (check_l1 hS he hil _ ?_ _ 0 rfl (Nat.zero_le _))
    refine Ev.step (fun k => rf_Check.j2.eq_2 _ _ _ _ _ _ _ k) ?_
    have hc := clauseF_len l0 l1 i
    refine check_l2 hS he hi1 (hm i hi1) _ _ (by rw [rowsOf_length]; omega) (full := rowF l0 l1 i) ?_ _ 0 _ rfl (Nat.zero_le _) (by omega) ?_
    · rw [← rowsOf_succ, wrap_next hil (by omega)]
      exact ih (i + 1) (by omega) (by omega)
    · unfold rowF
      rw [rdOf_get hil, rd46 hi1, List.drop_zero]
end
theorem check_ev {l0 : List ByteArray} {l1 : List S46} (hS : Small l0 l1) (hm : ∀ i (h : i < l1.length), (l1[i]).f1.length < 1048577) : Ev (fun k => rf_Check.f k l0 l1) (checkF l0 l1, rightF l0 l1) := by
  unfold rf_Check.f checkF
  refine Ev.bind (right_ev l0 l1 hS.1 hS.2.1) ?_
  by_cases h : rightF l0 l1 = 0
  · rw [if_pos h, h]
    exact ev_pos rfl (Ev.bind (ref_Folders_ev l0 hS.1 hS.2.1) (check_l0 hS (rightF_same h) hm _ 0 rfl (Nat.zero_le _)))
  · rw [if_neg h]
    exact ev_neg h (Ev.now _)
end Go.Proofs.YtcejdokeaoklaaaDoor.PImp
/-! PLAIN LAWS for ImportsAlone: rows are themselves; the new file's folder; the sizes. -/
set_option linter.unusedVariables false
set_option linter.unusedSectionVars false
namespace Go.Proofs.YtcejdokeaoklaaaDoor.PImp
open Go.RowKit Go.Proofs.YtcejdokeaoklaaaDoorW.PrintWords Go.Proofs.YtcejdokeaoklaaaDoorW.PrintLast Go.Proofs.YtcejdokeaoklaaaDoorW.PrintMore
open Go.Proofs.YtcejdokeaoklaaaDoor.Imp
section
variable {rows : List (List S52)} (hl : rows.length < 1073741824) (hr : ∀ r ∈ rows, r.length < 1073741824)
include hl hr
theorem self_l1 {i : Nat} (hi : i < rows.length) (h : Ev (fun k => lw_sameDiags.l0 k rows rows (wrap64 ((i : Int) + 1))) true) : ∀ n j, (rows[i]).length - j = n → j ≤ (rows[i]).length → Ev (fun k => lw_sameDiags.l1 k rows rows (i : Int) (j : Int)) true := by
  have hrd : rd_L14 rows (i : Int) = rows[i] := by simp [rd_L14, List.getD, hi]
  have hri := hr _ (List.getElem_mem hi)
  intro n
  induction n with
  | zero =>
    intro j hn hj
    refine Ev.step (fun k => lw_sameDiags.l1.eq_2 _ _ _ _ k) (ev_pos (by omega) (ev_pos (by omega) ?_))
    rw [hrd]
    exact ev_neg (by omega) h
  | succ n ih =>
    intro j hn hj
    have hjl : j < (rows[i]).length := by omega
    refine Ev.step (fun k => lw_sameDiags.l1.eq_2 _ _ _ _ k) (ev_pos (by omega) (ev_pos (by omega) ?_))
    rw [hrd, wrap_next hjl (by omega)]
    exact ev_pos (by omega) (ev_pos (by omega) (ev_pos (by omega) (ev_pos (by omega) (ev_neg (by simp) (ih (j + 1) (by omega) (by omega))))))
theorem self_l0 : ∀ n i, rows.length - i = n → i ≤ rows.length → Ev (fun k => lw_sameDiags.l0 k rows rows (i : Int)) true := by
  intro n
  induction n with
  | zero =>
    intro i hn hi
    exact Ev.step (fun k => lw_sameDiags.l0.eq_2 _ _ _ k) (ev_neg (by omega) (Ev.now _))
  | succ n ih =>
    intro i hn hi
    have hil : i < rows.length := by omega
    refine Ev.step (fun k => lw_sameDiags.l0.eq_2 _ _ _ k) (ev_pos (by omega) (ev_pos (by omega) (ev_pos (by omega) (ev_pos rfl ?_))))
    refine self_l1 hl hr hil ?_ _ 0 rfl (Nat.zero_le _)
    rw [wrap_next hil (by omega)]
    exact ih (i + 1) (by omega) (by omega)
theorem self_ev : Ev (fun k => lw_sameDiags.f k rows rows) true := by
  unfold lw_sameDiags.f
  exact ev_pos rfl (self_l0 hl hr _ 0 rfl (Nat.zero_le _))
end
/-! ### the new file's name -/
def zgo : ByteArray := ⟨#[47, 122, 46, 103, 111]⟩
theorem last_slash : ∀ (a b c d : List UInt8), a ++ 47 :: c = b ++ 47 :: d → 47 ∉ c → 47 ∉ d → a = b
  | [], [], _, _, _, _, _ => rfl
  | [], y :: b, c, d, h, hc, hd => by
    simp only [List.nil_append, List.cons_append, List.cons.injEq] at h
    exact absurd (by rw [h.2]; simp) hc
  | x :: a, [], c, d, h, hc, hd => by
    simp only [List.nil_append, List.cons_append, List.cons.injEq] at h
    exact absurd (by rw [← h.2]; simp) hd
  | x :: a, y :: b, c, d, h, hc, hd => by
    simp only [List.cons_append, List.cons.injEq] at h
    rw [h.1, last_slash a b c d h.2 hc hd]
theorem name_list (fd : ByteArray) : (fd ++ zgo).data.toList = fd.data.toList ++ 47 :: [122, 46, 103, 111] := by
  rw [show (fd ++ zgo).data = fd.data ++ zgo.data from ByteArray.data_append, Array.toList_append]
  rfl
theorem name_size (fd : ByteArray) : (fd ++ zgo).size = fd.size + 5 := by
  rw [ByteArray.size_append]
  rfl
theorem name_folder {fd : ByteArray} (h : okN (fd ++ zgo) = true) : folderF (fd ++ zgo) = fd := by
  obtain ⟨pre, suf, e, hp, hs, _⟩ := okName_cut (l := (fd ++ zgo).data.toList) h
  have hn := name_list fd
  have hpre : pre = fd.data.toList := last_slash _ _ _ _ (e.symm.trans hn) (fun h' => hs 47 h' rfl) (by decide)
  unfold folderF splitF
  rw [if_pos (show okName (fd ++ zgo).data.toList = true from h)]
  refine bytes_ext ?_
  rw [extract_list, List.drop_zero, ← hp, hn, hpre]
  simp
/-! ### the sizes with the new file -/
theorem total_insL {l1 : List S46} {a : Nat} : total (insL l1 a o0) = total l1 := by
  have h : total l1 = total (l1.take a ++ l1.drop a) := by rw [List.take_append_drop]
  rw [h]
  unfold insL total
  rw [List.map_append, List.map_append, List.sum_append, List.sum_append, List.map_cons, List.sum_cons]
  simp [o0]
theorem small_ins {l0 : List ByteArray} {l1 : List S46} {fd : ByteArray} {a : Nat} (hs : ∀ s ∈ l0, s.size < 1048577) (ho : ∀ o ∈ l1, OutLe o 1048577) (hw : ¬ 1024 < l0.length + l1.length + total l1) (ha : a ≤ l0.length) (ha1 : a ≤ l1.length) (hf : fd.size ≤ 20) : Small (insL l0 a (fd ++ zgo)) (insL l1 a o0) := by
  have ht := total_insL (l1 := l1) (a := a)
  have hp := allPairs_total (insL l0 a (fd ++ zgo)) (insL l1 a o0)
  have hl := insL_length l0 a (fd ++ zgo)
  refine ⟨by omega, fun s h => ?_, fun o h m hm => ?_, by omega⟩
  · rcases (mem_insL ha).1 h with rfl | h
    · rw [name_size]; omega
    · exact hs s h
  · rcases (mem_insL ha1).1 h with rfl | h
    · exact absurd hm (by simp [o0])
    · exact (ho o h).paths m hm
end Go.Proofs.YtcejdokeaoklaaaDoor.PImp
/-! Rows of elements that lead to rows, as rows of their cells: what is read in them is read in the copy. -/
set_option linter.unusedVariables false
namespace Go.Proofs.YtcejdokeaoklaaaDoor.PImp
open Go.RowKit Go.Proofs.YtcejdokeaoklaaaDoorW.PrintWords Go.Proofs.YtcejdokeaoklaaaDoorW.PrintLast Go.Proofs.YtcejdokeaoklaaaDoorW.PrintMore
def Kinds {α : Type} (d : Kd α) (w : World) (xs : List α) (rows : List (List Value)) : Prop := rows.length = xs.length ∧ ∀ (j : Nat) x r, xs[j]? = some x → rows[j]? = some r → d.K w x r
section
variable {α : Type} {d : Kd α} {w w' : World} {A : Option Addr} {n : Nat} {xs ys : List α} {rows rows' : List (List Value)}
theorem C_raw (h : d.C w A n xs) : ∃ rows, (Kd.raw d.sz).C w A n rows ∧ Kinds d w xs rows := by
  obtain ⟨h1, h2, h3⟩ := h
  by_cases hn : 0 < n
  · obtain ⟨ad, rfl, hc⟩ := h3 hn
    have hx : ∀ j, j < xs.length → ∃ c : List Value, c.length = d.sz ∧ (∀ x, xs[j]? = some x → d.K w x c) ∧ ∀ i u, c[i]? = some u → w.cell? (ad.add (j * d.sz + i)) = some u := by
      intro j hj
      obtain ⟨c, hl, hk, hcc⟩ := hc j xs[j] (List.getElem?_eq_getElem hj)
      exact ⟨c, hl, fun x hx => by rw [List.getElem?_eq_getElem hj] at hx; injection hx with hx; rw [← hx]; exact hk, hcc⟩
    obtain ⟨f, hf⟩ : ∃ f : Nat → List Value, ∀ j, j < xs.length → (f j).length = d.sz ∧ (∀ x, xs[j]? = some x → d.K w x (f j)) ∧ ∀ i u, (f j)[i]? = some u → w.cell? (ad.add (j * d.sz + i)) = some u :=
      ⟨fun j => open Classical in if hj : j < xs.length then (hx j hj).choose else [], fun j hj => by dsimp only; rw [dif_pos hj]; exact (hx j hj).choose_spec⟩
    have hg : ∀ j r, ((List.range xs.length).map f)[j]? = some r → j < xs.length ∧ r = f j := by
      intro j r hr
      rw [List.getElem?_map, Option.map_eq_some_iff] at hr
      obtain ⟨i, hi, rfl⟩ := hr
      obtain ⟨hl, e⟩ := List.getElem?_eq_some_iff.1 hi
      rw [List.getElem_range] at e
      rw [List.length_range] at hl
      exact ⟨hl, by rw [e]⟩
    refine ⟨(List.range xs.length).map f, ⟨by rw [List.length_map, List.length_range]; exact h1, h2, fun _ => ⟨ad, rfl, fun j r hr => ?_⟩⟩, by rw [List.length_map, List.length_range], fun j x r hx' hr => ?_⟩
    · obtain ⟨hj, rfl⟩ := hg j r hr
      obtain ⟨a1, a2, a3⟩ := hf j hj
      exact ⟨f j, a1, ⟨rfl, a1, d.K_one (a2 _ (List.getElem?_eq_getElem hj))⟩, a3⟩
    · obtain ⟨hj, rfl⟩ := hg j r hr
      exact (hf j hj).2.1 x hx'
  · have : xs = [] := List.length_eq_zero_iff.1 (by omega)
    subst this
    exact ⟨[], ⟨h1, h2, fun h => absurd h hn⟩, rfl, fun j x r hx => by simp at hx⟩
theorem C_back (h : (Kd.raw d.sz).C w A n rows) (hk : Kinds d w xs rows) : d.C w A n xs := by
  obtain ⟨h1, h2, h3⟩ := h
  refine ⟨by rw [← hk.1]; exact h1, h2, fun hn => ?_⟩
  obtain ⟨ad, rfl, hc⟩ := h3 hn
  refine ⟨ad, rfl, fun j x hx => ?_⟩
  have hj : j < rows.length := by rw [hk.1]; exact (List.getElem?_eq_some_iff.1 hx).1
  obtain ⟨c, hl, ⟨e, _, _⟩, hcc⟩ := hc j rows[j] (List.getElem?_eq_getElem hj)
  subst e
  exact ⟨_, hl, hk.2 j x _ hx (List.getElem?_eq_getElem hj), hcc⟩
theorem Kinds.below (h : Kinds d w xs rows) (hb : Below w.heap.size w w') : Kinds d w' xs rows := ⟨h.1, fun j x r hx hr => d.K_below hb (h.2 j x r hx hr)⟩
theorem Kinds.append (h : Kinds d w xs rows) (h' : Kinds d w ys rows') : Kinds d w (xs ++ ys) (rows ++ rows') := by
  refine ⟨by rw [List.length_append, List.length_append, h.1, h'.1], fun j x r hx hr => ?_⟩
  by_cases hj : j < xs.length
  · rw [List.getElem?_append_left hj] at hx
    rw [List.getElem?_append_left (by rw [h.1]; exact hj)] at hr
    exact h.2 j x r hx hr
  · rw [List.getElem?_append_right (by omega)] at hx
    rw [List.getElem?_append_right (by rw [h.1]; omega), h.1] at hr
    exact h'.2 _ x r hx hr
theorem Kinds.one {x : α} {r : List Value} (h : d.K w x r) : Kinds d w [x] [r] := by
  refine ⟨rfl, fun j y q hy hq => ?_⟩
  cases j with
  | zero =>
    simp only [List.getElem?_cons_zero, Option.some.injEq] at hy hq
    subst hy hq
    exact h
  | succ j => simp at hy
end
end Go.Proofs.YtcejdokeaoklaaaDoor.PImp
/-! ImportsAlone: the walk. -/
set_option linter.unusedVariables false
namespace Go.Proofs.YtcejdokeaoklaaaDoor.PImp
open Go.RowKit Go.Sort Go.Maps Go.Proofs.YtcejdokeaoklaaaDoorW.PrintWords Go.Proofs.YtcejdokeaoklaaaDoorW.PrintLast Go.Proofs.YtcejdokeaoklaaaDoorW.PrintMore
open Go.Proofs.YtcejdokeaoklaaaDoor.Imp
theorem info46 : (Tryd.prog.info? 46).map (fun i => (i.zero, i.size, i.bytes)) = some (some (.agg #[.string ⟨#[]⟩, .int .i64 0, .int .i64 0, .slice none 0 0, .slice none 0 0]), 5, 80) := by kernel_rfl
/-- The cells of an empty outline. -/
def zc : List Value := [.string ⟨#[]⟩, .int .i64 0, .int .i64 0, .slice none 0 0, .slice none 0 0]
theorem nil_C {α : Type} (d : Kd α) (w : World) : d.C w none 0 [] := ⟨rfl, by decide, fun h => by omega⟩
theorem o0_K (w : World) : k46.K w o0 zc := k46_mk w o0 (c3 := 0) (c4 := 0) (Nat.le_refl _) (nil_C k48 w) (Nat.le_refl _) (nil_C k136 w)
theorem zc_M (w : World) (base : Nat) (ok : Nat → Prop) : (Kd.raw 5).M w base ok zc zc := ⟨rfl, rfl, by intro u hu; simp only [zc, List.mem_cons, List.not_mem_nil, or_false] at hu; rcases hu with rfl | rfl | rfl | rfl | rfl <;> rfl⟩
/-- The law's word. -/
def Yes (w0 : World) (e : Ending) (w' : World) : Prop := e = .returned (.bool true) ∧ Below w0.heap.size w0 w'
section
variable (A0 : Option Addr) (c0 : Nat) (l0 : List ByteArray) (A1 : Option Addr) (c1 : Nat) (l1 : List S46) (fd : ByteArray) (w0 : World) (hr0 : Kd.C Kd.string w0 A0 l0.length l0) (hc0 : l0.length ≤ c0) (hr1 : Kd.C k46 w0 A1 l1.length l1) (hc1 : l1.length ≤ c1)
  (hl0 : l0.length < 1048577) (hs : ∀ s ∈ l0, s.size < 1048577) (hl1 : l1.length < 1048577) (ho : ∀ o ∈ l1, OutLe o 1048577) (hf : fd.size < 1048577)
include hr0 hc0 hr1 hc1 hl0 hs hl1 ho hf
set_option maxHeartbeats 8000000 in
set_option maxRecDepth 100000 in
theorem Alone_walk : Calls Tryd.prog 6 #[.slice A0 l0.length c0, .slice A1 l1.length c1, .string fd] w0 (Yes w0) := by
 obtain ⟨kw, hkw⟩ := Ev.rounds (g := fun k => lw_wide.f k l0 l1) (wide_ev l0 l1 hl0 hl1 (fun o h => (ho o h).len))
 have HW := Aside0.mk (lw_wide.calls kw A0 c0 l0 A1 c1 l1 _ w0 hr0 hc0 hr1 hc1 hkw)
 by_cases hw : 1024 < l0.length + l1.length + total l1
 ·have hb0 : decide (1024 < l0.length + l1.length + total l1) = true := decide_eq_true hw
  rw [hb0] at HW
  clear hb0 hw hkw hr0 hr1
  go_enter Tryd.func6, Tryd.ntmps6
  go_wp2_with (go_at_call 13; refine HW.out.mono ?_; rintro e w' ⟨rfl, hd⟩; have HD := Aside0.mk hd; clear hd)
  go_ret
  exact ⟨rfl, HD.out.below⟩
 ·have hb0 : decide (1024 < l0.length + l1.length + total l1) = false := decide_eq_false hw
  rw [hb0] at HW
  have hS := small_of hs ho hw
  have hml : ∀ i (hi : i < l1.length), (l1[i]).f1.length < 1048577 := fun i hi => (ho _ (List.getElem_mem hi)).len
  obtain ⟨kc, hkc⟩ := Ev.rounds (g := fun k => rf_Check.f k l0 l1) (check_ev hS hml)
  obtain ⟨kf, hkf⟩ := Ev.rounds (g := fun k => scholiastref13_Folders.f k l0) (ref_Folders_ev l0 hl0 hs)
  obtain ⟨kp, hkp⟩ := Ev.rounds (g := fun k => lw_place.f k (foldersF l0) fd) (place_ev (foldersF l0) fd (by have := foldersF_length l0; omega))
  have HR0 := Aside0.mk hr0
  have HR1 := Aside0.mk hr1
  have HWn := Aside0.mk hw
  have HSm := Aside0.mk hS
  have HKC := Aside0.mk hkc
  have HKF := Aside0.mk hkf
  have HKP := Aside0.mk hkp
  clear hb0 hw hkw hr0 hr1 hS hml hkc hkf hkp
  by_cases hf20 : (fd.size : Int) > 20
  ·have hb1 : decide ((fd.size : Int) > 20) = true := decide_eq_true hf20
   have hb2 : decide (20 < (fd.size : Int)) = true := decide_eq_true hf20
   go_enter Tryd.func6, Tryd.ntmps6
   go_wp2_with (go_at_call 13; refine HW.out.mono ?_; rintro e w' ⟨rfl, hd⟩; have HD := Aside0.mk hd; clear hd)
   go_ret
   exact ⟨rfl, HD.out.below⟩
  ·obtain ⟨ks, hks⟩ := Ev.rounds (g := fun k => scholiastref13_Split.f k (fd ++ zgo)) (ref_Split_ev (fd ++ zgo) (by rw [name_size]; omega))
   have HKS := Aside0.mk hks
   clear hks
   have hb1 : decide ((fd.size : Int) > 20) = false := decide_eq_false hf20
   have hb2 : decide (20 < (fd.size : Int)) = false := decide_eq_false hf20
   obtain ⟨nm, hnm⟩ : ∃ nm, nm = fd ++ (⟨#[47, 122, 46, 103, 111]⟩ : ByteArray) := ⟨_, rfl⟩
   have HNM := Aside0.mk hnm
   have hzn : fd ++ zgo = nm := hnm.symm
   rw [hzn] at HKS
   have HZN := Aside0.mk hzn
   clear hnm hzn
   cases hok : okN nm
   ·have HS2 := splitF_no hok
    rw [HS2] at HKS
    clear HS2
    go_enter Tryd.func6, Tryd.ntmps6
    go_upto_region 4 with (first | (go_at_call 13; refine HW.out.mono ?_; rintro e w1 ⟨rfl, hd⟩; have HD := Aside0.mk hd.below; clear hd))
    rw [← HNM.out]
    go_wp2_with (first | (go_at_call 9; refine (scholiastref13_Split.calls ks nm _ _ _ _ HKS.out).mono ?_; rintro e w2 ⟨rfl, hd⟩; have HD2 := Aside0.mk (HD.out.trans (hd.below.mono HD.out.size)); clear hd) | (go_at_call 18; refine (rf_Check.calls kc _ _ l0 _ _ l1 _ _ w2 (Kd.C_below HR0.out HD2.out) hc0 (Kd.C_below HR1.out HD2.out) hc1 HKC.out).mono ?_; rintro e w3 ⟨va, rfl, hs3, hb3⟩; obtain ⟨Aa, ca, hva, hcla, hCa⟩ := Kd.S_reads hs3; subst hva; have HS3 := Aside0.mk hCa; have HB3 := Aside0.mk (HD2.out.trans (hb3.mono HD2.out.size)); have HLA := Aside0.mk hcla; clear hs3 hb3 hCa hcla))
    go_ret
    exact ⟨rfl, HB3.out⟩
   ·obtain ⟨s1, s2, hsp⟩ : ∃ s1 s2, splitF nm = (s1, s2, 0) := ⟨_, _, by unfold splitF; rw [if_pos (show okName nm.data.toList = true from hok)]⟩
    rw [hsp] at HKS
    clear hsp
    by_cases hri : rightF l0 l1 = 0
    ·rw [hri] at HKC
     by_cases hin : fd ∈ foldersF l0
     ·rw [placeF_in hin] at HKP
      have hp0 : decide ((pI (foldersF l0) fd : Int) ≥ 0) = true := decide_eq_true (by omega)
      have hp1 : decide (0 ≤ (pI (foldersF l0) fd : Int)) = true := decide_eq_true (by omega)
      go_enter Tryd.func6, Tryd.ntmps6
      go_upto_region 4 with (first | (go_at_call 13; refine HW.out.mono ?_; rintro e w1 ⟨rfl, hd⟩; have HD := Aside0.mk hd.below; clear hd))
      rw [← HNM.out]
      go_wp2_with (first | (go_at_call 9; refine (scholiastref13_Split.calls ks nm _ _ _ _ HKS.out).mono ?_; rintro e w2 ⟨rfl, hd⟩; have HD2 := Aside0.mk (HD.out.trans (hd.below.mono HD.out.size)); clear hd) | (go_at_call 18; refine (rf_Check.calls kc _ _ l0 _ _ l1 _ _ w2 (Kd.C_below HR0.out HD2.out) hc0 (Kd.C_below HR1.out HD2.out) hc1 HKC.out).mono ?_; rintro e w3 ⟨va, rfl, hs3, hb3⟩; obtain ⟨Aa, ca, hva, hcla, hCa⟩ := Kd.S_reads hs3; subst hva; have HS3 := Aside0.mk hCa; have HB3 := Aside0.mk (HD2.out.trans (hb3.mono HD2.out.size)); have HLA := Aside0.mk hcla; clear hs3 hb3 hCa hcla) | ((try (refine gate_guard (by rfl) ?_; dsimp only)); go_at_call 12; refine (scholiastref13_Folders.calls kf _ _ l0 _ _ (Kd.C_below HR0.out HB3.out) hc0 HKF.out).mono ?_; rintro e w4 ⟨vf, rfl, hv4, hb4⟩; obtain ⟨Af, cf, hvf, hclf, hFf⟩ := hv4; have hCf := Kd.F_now hFf; subst hvf; have HCF := Aside0.mk hCf; have HLF := Aside0.mk hclf; have HB4 := Aside0.mk (HB3.out.trans (hb4.mono HB3.out.size)); have HB4s := Aside0.mk hb4; clear hb4 hFf hCf hclf) | ((try (refine gate_guard (by rfl) ?_; dsimp only)); go_at_call 19; refine (lw_place.calls kp _ _ _ fd _ _ HCF.out HLF.out HKP.out).mono ?_; rintro e w5 ⟨rfl, hd⟩; have HB5 := Aside0.mk (HB4.out.trans (hd.below.mono HB4.out.size)); have HB5s := Aside0.mk (HB4s.out.trans (hd.below.mono HB4s.out.size)); clear hd))
      go_ret
      exact ⟨rfl, HB5.out⟩
     ·rw [placeF_out hin] at HKP
      have HCAL := Aside0.mk (show (checkF l0 l1).length = l0.length by unfold checkF; rw [if_pos hri, rowsOf_length])
      go_enter Tryd.func6, Tryd.ntmps6
      go_upto_region 4 with (first | (go_at_call 13; refine HW.out.mono ?_; rintro e w1 ⟨rfl, hd⟩; have HD := Aside0.mk hd.below; clear hd))
      rw [← HNM.out]
      go_upto_region 8 with (first | (go_at_call 9; refine (scholiastref13_Split.calls ks nm _ _ _ _ HKS.out).mono ?_; rintro e w2 ⟨rfl, hd⟩; have HD2 := Aside0.mk (HD.out.trans (hd.below.mono HD.out.size)); clear hd) | (go_at_call 18; refine (rf_Check.calls kc _ _ l0 _ _ l1 _ _ w2 (Kd.C_below HR0.out HD2.out) hc0 (Kd.C_below HR1.out HD2.out) hc1 HKC.out).mono ?_; rintro e w3 ⟨va, rfl, hs3, hb3⟩; obtain ⟨Aa, ca, hva, hcla, hCa⟩ := Kd.S_reads hs3; rw [HCAL.out] at hva hcla hCa; subst hva; have HS3 := Aside0.mk hCa; have HB3 := Aside0.mk (HD2.out.trans (hb3.mono HD2.out.size)); have HLA := Aside0.mk hcla; clear hs3 hb3 hCa hcla) | ((try (refine gate_guard (by rfl) ?_; dsimp only)); go_at_call 12; refine (scholiastref13_Folders.calls kf _ _ l0 _ _ (Kd.C_below HR0.out HB3.out) hc0 HKF.out).mono ?_; rintro e w4 ⟨vf, rfl, hv4, hb4⟩; obtain ⟨Af, cf, hvf, hclf, hFf⟩ := hv4; have hCf := Kd.F_now hFf; subst hvf; have HCF := Aside0.mk hCf; have HLF := Aside0.mk hclf; have HB4 := Aside0.mk (HB3.out.trans (hb4.mono HB3.out.size)); have HB4s := Aside0.mk hb4; clear hb4 hFf hCf hclf) | ((try (refine gate_guard (by rfl) ?_; dsimp only)); go_at_call 19; refine (lw_place.calls kp _ _ _ fd _ _ HCF.out HLF.out HKP.out).mono ?_; rintro e w5 ⟨rfl, hd⟩; have HB5 := Aside0.mk (HB4.out.trans (hd.below.mono HB4.out.size)); have HB5s := Aside0.mk (HB4s.out.trans (hd.below.mono HB4s.out.size)); clear hd))
      have HN := Aside0.mk hin
      have HRI := Aside0.mk hri
      have HOK := Aside0.mk hok
      have HLL := Aside0.mk (right_len hri)
      have HF20 := Aside0.mk hf20
      clear hin hri hok HKP HKF HKS HKC HW HCF HLF hf20 hb1 hb2
      have hst0 : Below w5.heap.size w5 w5 := Below.refl _ _
      go_wp2
      go_loopg [13] l1.length (fun kq v13 w' => ∃ i : Nat, v13 = .int .i64 (i : Int) ∧ i + kq = l1.length ∧ Below w5.heap.size w5 w' ∧ Aside0 (∀ i' (h : i' < l1.length), i' < i → ∀ m ∈ (l1[i']).f1, m.f1 ≠ fd))
      case atStart => exact ⟨0, rfl, by omega, hst0, ⟨fun _ _ h => by omega⟩⟩
      case round =>
       clear hst0
       obtain ⟨i, rfl, hk, hbw, HA⟩ := hrel
       obtain ⟨m0, rfl⟩ : ∃ m0, m0 = gk := ⟨_, rfl⟩
       by_cases hi : i < l1.length
       ·have hb1 : decide ((i : Int) < (l1.length : Int)) = true := decide_eq_true (by omega)
        have p0 : 0 ≤ (i : Int) := by omega
        have q1 : (i : Int) < (l1.length : Int) := by omega
        obtain ⟨ad1, A3, c3, A4, c4, e1, hy0, hy1, hy2, hy3, hy4, hl3, hC3, hl4, hC4⟩ := at_T46 HR1.out (i : Int) p0 q1
        cases e1
        simp only [Int.toNat_natCast] at hy3
        rw [rd46 hi] at hy3 hl3 hC3
        have HC3 := Aside0.mk hC3
        have HY3 := Aside0.mk hy3
        have hml := (ho _ (List.getElem_mem hi)).len
        clear hy0 hy1 hy2 hy3 hy4 hl4 hC4 hC3
        have HEI := Aside0.mk (rfl : l1[i] = l1[i])
        obtain ⟨ms, hms⟩ : ∃ ms, ms = (l1[i]).f1 := ⟨_, rfl⟩
        rw [← hms] at HY3 HC3 hl3 hml
        have HMS := Aside0.mk hms
        clear hms
        go_wp2
        go_loopg [14] ms.length (fun kq v14 w' => ∃ j : Nat, v14 = .int .i64 (j : Int) ∧ j + kq = ms.length ∧ Below w5.heap.size w5 w' ∧ Aside0 (∀ j' (h : j' < ms.length), j' < j → (ms[j']).f1 ≠ fd))
        case atStart => exact ⟨0, rfl, by omega, hbw, ⟨fun _ _ h => by omega⟩⟩
        case round =>
         clear hbw
         obtain ⟨j, rfl, hkj, hbj, HJ⟩ := hrel
         obtain ⟨m1, rfl⟩ : ∃ m1, m1 = gk := ⟨_, rfl⟩
         have hb0 := HB5.out.trans (hbj.mono HB5.out.size)
         have hy3 := pw_cell_below hb0 HY3.out
         by_cases hj : j < ms.length
         ·have hb4 : decide ((j : Int) < (ms.length : Int)) = true := decide_eq_true (by omega)
          obtain ⟨ad3, e3, hz0, hz1, hz2, hz3⟩ := at_T48 (Kd.C_below HC3.out hb0) (j : Int) (by omega) (by omega)
          cases e3
          rw [rd48 hj] at hz1
          simp only [Int.toNat_natCast] at hz1
          clear hz0 hz2 hz3
          have p4 : 0 ≤ (j : Int) := by omega
          have q4 : (j : Int) < (ms.length : Int) := by omega
          by_cases he : (ms[j]).f1 = fd
          ·have h1 : ((ms[j]).f1.toList == fd.toList) = true := by rw [he]; simp
           go_wp2
           go_ret
           exact ⟨rfl, hb0⟩
          ·have h1 : ((ms[j]).f1.toList == fd.toList) = false := by simpa using fun e => he (toList_inj.1 e)
           have HE := Aside0.mk he
           clear he
           go_wp2
           go_roundg (m1 - 1)
           case measure => omega
           case rel => exact ⟨j + 1, by go_num, by omega, hbj, ⟨fun j' h hlt => by
            by_cases e : j' = j
            ·subst e; exact HE.out
            ·exact HJ.out j' h (by omega)⟩⟩
         ·have hb4 : decide ((j : Int) < (ms.length : Int)) = false := decide_eq_false (by omega)
          go_wp2
          go_roundg (m0 - 1)
          case measure => omega
          case rel => exact ⟨i + 1, by go_num, by omega, hbj, ⟨fun i' h hlt => by
           by_cases e : i' = i
           ·subst e
            rw [← HMS.out]
            intro m hm
            obtain ⟨j', hj', rfl⟩ := List.getElem_of_mem hm
            exact HJ.out j' hj' (by omega)
           ·exact HA.out i' h (by omega)⟩⟩
       ·have hb1 : decide ((i : Int) < (l1.length : Int)) = false := decide_eq_false (by omega)
        have HNO := Aside0.mk (show ∀ o ∈ l1, ∀ m ∈ o.f1, m.f1 ≠ fd from fun o ho' m hm => by
         obtain ⟨i', hi', rfl⟩ := List.getElem_of_mem ho'
         exact HA.out i' hi' (by omega) m hm)
        clear HA
        go_upto_block 4 with fail
        go_cut [15] (fun v15 wx => ∃ a : Nat, v15 = .int .i64 (a : Int) ∧ Below w5.heap.size w5 wx ∧ New l0 l1 nm fd a)
        case first =>
         go_wp2
         go_loopg [15] l0.length (fun kq v15 w' => ∃ a : Nat, v15 = .int .i64 (a : Int) ∧ a + kq = l0.length ∧ Below w5.heap.size w5 w' ∧ Aside0 (∀ j (hj : j < l0.length), j < a → ltS l0[j] nm = true))
         case atStart => exact ⟨0, rfl, by omega, hbw, ⟨fun _ _ h => by omega⟩⟩
         case round =>
          clear hbw
          obtain ⟨a, rfl, hka, hba, HL⟩ := hrel
          have hb0 := HB5.out.trans (hba.mono HB5.out.size)
          by_cases ha : a < l0.length
          ·have hb4 : decide ((a : Int) < (l0.length : Int)) = true := decide_eq_true (by omega)
           obtain ⟨ad, e1, hx⟩ := Kd.at_string (Kd.C_below HR0.out hb0) (a : Int) (by omega) (by omega)
           cases e1
           rw [rdOf_get ha] at hx
           simp only [Int.toNat_natCast] at hx
           have p4 : 0 ≤ (a : Int) := by omega
           have q4 : (a : Int) < (l0.length : Int) := by omega
           cases hlt : ltS l0[a] nm
           ·have h1 : Op.bytesLess (l0[a]).toList nm.toList = false := hlt
            have HE := Aside0.mk hlt
            clear hlt
            go_wp2
            go_meet
            case rel => exact ⟨a, rfl, hba, ⟨HRI.out, HOK.out, by rw [← HZN.out]; exact name_folder (by rw [HZN.out]; exact HOK.out), HN.out, HNO.out, by omega, HL.out, fun _ => HE.out⟩⟩
           ·have h1 : Op.bytesLess (l0[a]).toList nm.toList = true := hlt
            have HE := Aside0.mk hlt
            clear hlt
            go_wp2
            go_roundg (gk - 1)
            case measure => omega
            case rel => exact ⟨a + 1, by go_num, by omega, hba, ⟨fun j hj hlt => by
             by_cases e : j = a
             ·subst e; exact HE.out
             ·exact HL.out j hj (by omega)⟩⟩
          ·have hb4 : decide ((a : Int) < (l0.length : Int)) = false := decide_eq_false (by omega)
           go_wp2
           go_meet
           case rel => exact ⟨a, rfl, hba, ⟨HRI.out, HOK.out, by rw [← HZN.out]; exact name_folder (by rw [HZN.out]; exact HOK.out), HN.out, HNO.out, by omega, HL.out, fun h => absurd h ha⟩⟩
        case rest =>
         obtain ⟨a, rfl, hb6, N⟩ := hcut
         obtain ⟨wb, rfl⟩ : ∃ wb : World, wb = wc := ⟨_, rfl⟩
         have HB6 := Aside0.mk (HB5.out.trans (hb6.mono HB5.out.size))
         have HC0 := Aside0.mk (Kd.C_below HR0.out HB6.out)
         have HC1 := Aside0.mk (Kd.C_below HR1.out HB6.out)
         have HSA := Aside0.mk (Kd.C_below HS3.out (HB5s.out.trans (hb6.mono HB5s.out.size)))
         have ha0 := N.le
         have ha1 := N.le1
         have HNW := Aside0.mk N
         clear hb6 N
         obtain ⟨i013, hi013, _, hsz13, _⟩ := info_parts info9
         obtain ⟨i046, hi046, _, hsz46, _⟩ := info_parts info46
         have ht0 := cut_to (P := Tryd.prog) 26 9 .i64 Tryd.underlying26 hi013 A0 l0.length c0 (a : Int) (by omega) (by omega) hc0
         have hf0 := cut_from (P := Tryd.prog) 26 9 .i64 Tryd.underlying26 hi013 1 hsz13 A0 l0.length c0 (a : Int) (by omega) (by omega)
         have ht1 := cut_to (P := Tryd.prog) 30 46 .i64 Tryd.underlying30 hi046 A1 l1.length c1 (a : Int) (by omega) (by omega) hc1
         have hf1 := cut_from (P := Tryd.prog) 30 46 .i64 Tryd.underlying30 hi046 5 hsz46 A1 l1.length c1 (a : Int) (by omega) (by omega)
         simp only [Int.toNat_natCast] at ht0 hf0 ht1 hf1
         obtain ⟨A0', hA0'⟩ : ∃ A, A = (if c0 = a then A0 else A0.map (·.add (a * 1))) := ⟨_, rfl⟩
         obtain ⟨A1', hA1'⟩ : ∃ A, A = (if c1 = a then A1 else A1.map (·.add (a * 5))) := ⟨_, rfl⟩
         rw [← hA0'] at hf0
         rw [← hA1'] at hf1
         have HT0 := Aside0.mk (show Kd.string.C wb A0 a (l0.take a) from by have := Kd.C_take HC0.out ha0; rwa [List.length_take, Nat.min_eq_left ha0] at this)
         have HF0 := Aside0.mk (show Kd.string.C wb A0' (l0.length - a) (l0.drop a) from by rw [hA0']; have := Kd.C_drop HC0.out ha0 hc0; rwa [List.length_drop] at this)
         obtain ⟨rt, hrt, hkt⟩ := C_raw (show k46.C wb A1 a (l1.take a) from by have := Kd.C_take HC1.out ha1; rwa [List.length_take, Nat.min_eq_left ha1] at this)
         obtain ⟨rd, hrd, hkd⟩ := C_raw (show k46.C wb A1' (l1.length - a) (l1.drop a) from by rw [hA1']; have := Kd.C_drop HC1.out ha1 hc1; rwa [List.length_drop] at this)
         have hrtl := hrt.1
         have HRT := Aside0.mk hrt
         have HRD := Aside0.mk hrd
         have HKT := Aside0.mk hkt
         have HKD := Aside0.mk hkd
         clear hrt hrd hkt hkd hA0' hA1' hi013 hi046 hsz13 hsz46
         have HBb := Aside0.mk (Below.refl wb.heap.size wb)
         go_upto_region 20 with ((with_reducible refine gate_dst (N := 103) rfl ?_); refine Kd.R_lit Kd.string (w0 := wb) wb.heap.size 9 ?hg (N := 103) ?hd (xs := []) (inner := []) (ok := fun _ => True) (okp := fun _ => True) ?hr ?hp (fun _ hk => hk) trivial (Below.refl _ _) (below_size (Below.refl _ _)) (by simp) ?_; (case hd => rfl); (case hg => rfl); (case hr => first | (go_simp; done) | (go_simp; rfl)); (case hp => exact (Reps.none _ _)); intro v16 w7 ho_ hb_ hg_ hn_; have HO7 := Aside0.mk ho_; have HB7 := Aside0.mk hb_; clear ho_ hb_ hg_ hn_)
         go_upto_region 21 with ((with_reducible refine gate_builtin (b := .append) (xs := #[.tmp 104, .tmp 107]) rfl ?_); at_builtin; refine Kd.R_append_rows Kd.string (w0 := wb) wb.heap.size rfl (.tmp 104) (.tmp 107) 26 9 (.string ⟨#[]⟩) 16 rfl Tryd.underlying26 info9 rfl (by decide) (by omega) v16 [] (l0.take a) A0 a c0 (fun _ => True) (fun _ => False) rfl rfl HO7.out (Kd.C_below HT0.out HB7.out) (fun _ _ h => h) (fun _ h => h.elim) (fun _ _ => trivial) HB7.out (below_size HB7.out) (by simp only [List.length_nil, List.length_append, List.length_take, List.length_singleton, List.length_cons]; omega) ?_; intro v16b w8 ho_ hb_ hg_ ht_; have HO8 := Aside0.mk ho_; have HB8 := Aside0.mk hb_; clear ho_ hb_ hg_ ht_)
         go_upto_region 22 with ((with_reducible refine gate_builtin (b := .append) (xs := #[.tmp 109, .tmp 111]) rfl ?_); at_builtin; refine Kd.R_append Kd.string (w0 := wb) wb.heap.size rfl (.tmp 109) (.tmp 111) 26 9 (.string ⟨#[]⟩) 16 rfl Tryd.underlying26 info9 rfl (by decide) (by omega) v16b ([] ++ l0.take a) nm [.string nm] (fun _ => True) (fun _ => False) rfl rfl rfl (fun _ h => h.elim) (fun _ _ => trivial) HO8.out HB8.out (below_size HB8.out) (by simp only [List.length_nil, List.length_append, List.length_take, List.length_singleton, List.length_cons]; omega) ?_; intro v16c w9 ho_ hb_ hg_ ht_; have HO9 := Aside0.mk ho_; have HB9 := Aside0.mk hb_; clear ho_ hb_ hg_ ht_)
         go_upto_region 23 with ((with_reducible refine gate_builtin (b := .append) (xs := #[.tmp 113, .tmp 116]) rfl ?_); at_builtin; refine Kd.R_append_rows Kd.string (w0 := wb) wb.heap.size rfl (.tmp 113) (.tmp 116) 26 9 (.string ⟨#[]⟩) 16 rfl Tryd.underlying26 info9 rfl (by decide) (by omega) v16c ([] ++ l0.take a ++ [nm]) (l0.drop a) A0' (l0.length - a) (c0 - a) (fun _ => True) (fun _ => False) rfl rfl HO9.out (Kd.C_below HF0.out HB9.out) (fun _ _ h => h) (fun _ h => h.elim) (fun _ _ => trivial) HB9.out (below_size HB9.out) (by simp only [List.length_nil, List.length_append, List.length_take, List.length_singleton, List.length_cons]; omega) ?_; intro v16d w10 ho_ hb_ hg_ ht_; have HO10 := Aside0.mk ho_; have HB10 := Aside0.mk hb_; clear ho_ hb_ hg_ ht_)
         have e16 : [] ++ l0.take a ++ [nm] ++ l0.drop a = insL l0 a nm := by simp [insL]
         rw [e16] at HO10
         obtain ⟨A16, c16, hv16, hcl16, hC16⟩ := Kd.R_reads HO10.out
         subst hv16
         have HC16 := Aside0.mk hC16
         clear hC16 e16 HO7 HO8 HO9 HO10
         go_upto_region 24 with ((with_reducible refine gate_dst (N := 118) rfl ?_); refine Kd.R_lit (Kd.raw 5) (w0 := w10) w10.heap.size 46 ?hg (N := 118) ?hd (xs := []) (inner := []) (ok := fun _ => True) (okp := fun _ => True) ?hr ?hp (fun _ hk => hk) trivial (Below.refl _ _) (below_size (Below.refl _ _)) (by simp) ?_; (case hd => rfl); (case hg => rfl); (case hr => first | (go_simp; done) | (go_simp; rfl)); (case hp => exact (Reps.none _ _)); intro v17 w11 ho_ hb_ hg_ hn_; have HO11 := Aside0.mk ho_; have HB11 := Aside0.mk hb_; clear ho_ hb_ hg_ hn_)
         go_upto_region 25 with ((with_reducible refine gate_builtin (b := .append) (xs := #[.tmp 119, .tmp 122]) rfl ?_); at_builtin; refine Kd.R_append_rows (Kd.raw 5) (w0 := w10) w10.heap.size rfl (.tmp 119) (.tmp 122) 30 46 (.agg #[.string ⟨#[]⟩, .int .i64 0, .int .i64 0, .slice none 0 0, .slice none 0 0]) 80 rfl Tryd.underlying30 info46 rfl (by decide) (by omega) v17 [] rt A1 a c1 (fun _ => True) (fun _ => False) rfl rfl HO11.out (Kd.C_below HRT.out (HB10.out.trans (HB11.out.mono HB10.out.size))) (fun _ _ h => h) (fun _ h => h.elim) (fun _ _ => trivial) HB11.out (below_size HB11.out) (by simp only [List.length_nil, List.length_append, List.length_take, List.length_singleton, List.length_cons]; omega) ?_; intro v17b w12 ho_ hb_ hg_ ht_; have HO12 := Aside0.mk ho_; have HB12 := Aside0.mk hb_; clear ho_ hb_ hg_ ht_)
         go_upto_region 26 with ((with_reducible refine gate_builtin (b := .append) (xs := #[.tmp 124, .tmp 126]) rfl ?_); at_builtin; refine Kd.R_append (Kd.raw 5) (w0 := w10) w10.heap.size rfl (.tmp 124) (.tmp 126) 30 46 (.agg #[.string ⟨#[]⟩, .int .i64 0, .int .i64 0, .slice none 0 0, .slice none 0 0]) 80 rfl Tryd.underlying30 info46 rfl (by decide) (by omega) v17b ([] ++ rt) zc zc (fun _ => True) (fun _ => False) rfl rfl (zc_M _ _ _) (fun _ h => h.elim) (fun _ _ => trivial) HO12.out HB12.out (below_size HB12.out) (by simp only [List.length_nil, List.length_append, List.length_take, List.length_singleton, List.length_cons]; omega) ?_; intro v17c w13 ho_ hb_ hg_ ht_; have HO13 := Aside0.mk ho_; have HB13 := Aside0.mk hb_; clear ho_ hb_ hg_ ht_)
         go_upto_region 27 with ((with_reducible refine gate_builtin (b := .append) (xs := #[.tmp 128, .tmp 131]) rfl ?_); at_builtin; refine Kd.R_append_rows (Kd.raw 5) (w0 := w10) w10.heap.size rfl (.tmp 128) (.tmp 131) 30 46 (.agg #[.string ⟨#[]⟩, .int .i64 0, .int .i64 0, .slice none 0 0, .slice none 0 0]) 80 rfl Tryd.underlying30 info46 rfl (by decide) (by omega) v17c ([] ++ rt ++ [zc]) rd A1' (l1.length - a) (c1 - a) (fun _ => True) (fun _ => False) rfl rfl HO13.out (Kd.C_below HRD.out (HB10.out.trans (HB13.out.mono HB10.out.size))) (fun _ _ h => h) (fun _ h => h.elim) (fun _ _ => trivial) HB13.out (below_size HB13.out) (by simp only [List.length_nil, List.length_append, List.length_take, List.length_singleton, List.length_cons]; omega) ?_; intro v17d w14 ho_ hb_ hg_ ht_; have HO14 := Aside0.mk ho_; have HB14 := Aside0.mk hb_; clear ho_ hb_ hg_ ht_)
         have hbb14 := HB10.out.trans (HB14.out.mono HB10.out.size)
         have hkm : Kinds k46 w14 (insL l1 a o0) (rt ++ zc :: rd) := (HKT.out.below hbb14).append ((Kinds.one (o0_K w14)).append (HKD.out.below hbb14))
         have e17 : [] ++ rt ++ [zc] ++ rd = rt ++ zc :: rd := by simp
         rw [e17] at HO14
         obtain ⟨A17, c17, hv17, hcl17, hC17⟩ := Kd.R_reads HO14.out
         rw [hkm.1] at hv17 hcl17 hC17
         subst hv17
         have HM := Aside0.mk (C_back (d := k46) hC17 hkm)
         have HB14b := Aside0.mk hbb14
         have hS' := small_ins (fd := fd) hs ho HWn.out ha0 ha1 (by have := HF20.out; omega)
         rw [HZN.out] at hS'
         have HCK := Aside0.mk (show imports_Check.f (insL l0 a nm) (insL l1 a o0) = some (checkF (insL l0 a nm) (insL l1 a o0), 0) by rw [Check_f hS', HNW.out.right'])
         have HOR := Aside0.mk (show imports_Order.f (insL l0 a nm) (insL l1 a o0) = some (ordA (insL l0 a nm) (insL l1 a o0), ordB l0 l1, 0) by rw [Order_f hS', HNW.out.right', HNW.out.second])
         have HCA := Aside0.mk HNW.out.check_at
         obtain ⟨ko, hko⟩ := Ev.rounds (g := fun k => rf_Order.f k l0 l1) (order_ev HSm.out)
         rw [HRI.out] at hko
         have HKO := Aside0.mk hko
         have hrows : ∀ r ∈ checkF l0 l1, r.length < 1073741824 := fun r hr' => by
          unfold checkF rowsOf at hr'
          rw [if_pos HRI.out] at hr'
          obtain ⟨i, hi, rfl⟩ := List.mem_map.1 hr'
          have hi' := List.mem_range.1 hi
          have h1 : i < l1.length := by rw [← HLL.out]; exact hi'
          have := clauseF_len l0 l1 i
          have h2 := importsF_len l0 l1 (folderF (rdOf ByteArray.empty l0 (i : Int))) (rd_T46 l1 (i : Int)).f1
          unfold rowF
          rw [List.length_append]
          rw [rd46 h1] at h2 ⊢
          have h3 := (ho _ (List.getElem_mem h1)).len
          omega
         obtain ⟨kd, hkd⟩ := Ev.rounds (g := fun k => lw_sameDiags.f k (checkF l0 l1) (checkF l0 l1)) (self_ev (by rw [HCAL.out]; omega) hrows)
         obtain ⟨kt, hkt⟩ := Ev.rounds (g := fun k => scholiastlaw13_sameTexts.f k (ordB l0 l1) (ordB l0 l1)) (same_ev _ _ (ordB_len HSm.out))
         rw [decide_eq_true rfl] at hkt
         have HKD2 := Aside0.mk hkd
         have HKT2 := Aside0.mk hkt
         clear hC17 hkm e17 hS' hko hkd hkt hrows hbb14 HO11 HO12 HO13 HO14
         go_upto_region 28 with (go_at_call 20; refine (imports_Check.calls A16 c16 (insL l0 a nm) A17 c17 (insL l1 a o0) _ _ w14 (Kd.C_below HC16.out HB14.out) hcl16 HM.out hcl17 HCK.out).mono ?_; rintro e w15 ⟨vb, rfl, hsb, hbb⟩; obtain ⟨Ab, cb, hvb, hclb, hCb⟩ := Kd.S_reads hsb; rw [HCA.out.1] at hvb hclb hCb; subst hvb; have HCB := Aside0.mk hCb; have HB15 := Aside0.mk hbb; clear hsb hbb hCb)
         obtain ⟨adb, Ax, cx, eb, hcell, _, _⟩ := at_L14 HCB.out (a : Int) (by omega) (by omega)
         subst eb
         have hrd0 : rd_L14 (checkF (insL l0 a nm) (insL l1 a o0)) (a : Int) = [] := by
          have := HCA.out.2.1
          simp only [rd_L14, Int.toNat_natCast, List.getD, this, Option.getD]
         rw [hrd0] at hcell
         simp only [Int.toNat_natCast, List.length_nil] at hcell
         have p9 : (0 : Int) ≤ (a : Int) := by omega
         have q9 : (a : Int) < (l0.length : Int) + 1 := by omega
         have q10 : (a : Int) < ((l0.length + 1 : Nat) : Int) := by omega
         obtain ⟨i049, hi049, _, hsz49, _⟩ := info_parts info49
         have ht3 := cut_to (P := Tryd.prog) 37 49 .i64 Tryd.underlying37 hi049 (some adb) (l0.length + 1) cb (a : Int) (by omega) (by omega) hclb
         have hf3 := cut_from (P := Tryd.prog) 37 49 .i64 Tryd.underlying37 hi049 1 hsz49 (some adb) (l0.length + 1) cb ((a : Int) + 1) (by omega) (by omega)
         rw [show ((a : Int) + 1).toNat = a + 1 by omega, Nat.add_sub_add_right] at hf3
         simp only [Int.toNat_natCast] at ht3
         obtain ⟨Ab', hAb'⟩ : ∃ A, A = (if cb = a + 1 then some adb else (some adb : Option Addr).map (·.add ((a + 1) * 1))) := ⟨_, rfl⟩
         rw [← hAb'] at hf3
         have hCB2 : (Kd.slice 52 k52).C w15 (some adb) (checkF (insL l0 a nm) (insL l1 a o0)).length (checkF (insL l0 a nm) (insL l1 a o0)) := by rw [HCA.out.1]; exact HCB.out
         obtain ⟨rbt, hrbt, hkbt⟩ := C_raw (show (Kd.slice 52 k52).C w15 (some adb) a ((checkF (insL l0 a nm) (insL l1 a o0)).take a) from by
          have := Kd.C_take (m := a) hCB2 (by rw [HCA.out.1]; omega)
          rwa [List.length_take, HCA.out.1, Nat.min_eq_left (by omega)] at this)
         obtain ⟨rbd, hrbd, hkbd⟩ := C_raw (show (Kd.slice 52 k52).C w15 Ab' (l0.length - a) ((checkF (insL l0 a nm) (insL l1 a o0)).drop (a + 1)) from by
          rw [hAb']
          have := Kd.C_drop (m := a + 1) (c := cb) hCB2 (by rw [HCA.out.1]; omega) (by rw [HCA.out.1]; exact hclb)
          rwa [List.length_drop, HCA.out.1, Nat.add_sub_add_right] at this)
         have hrbtl := hrbt.1
         have HRBT := Aside0.mk hrbt
         have HRBD := Aside0.mk hrbd
         have HKBT := Aside0.mk hkbt
         have HKBD := Aside0.mk hkbd
         clear hrbt hrbd hkbt hkbd hAb' hi049 hsz49 hCB2 hrd0
         go_upto_region 30 with fail
         go_upto_region 31 with ((with_reducible refine gate_dst (N := 157) rfl ?_); refine Kd.R_lit (Kd.raw 1) (w0 := w15) w15.heap.size 49 ?hg (N := 157) ?hd (xs := []) (inner := []) (ok := fun _ => True) (okp := fun _ => True) ?hr ?hp (fun _ hk => hk) trivial (Below.refl _ _) (below_size (Below.refl _ _)) (by simp) ?_; (case hd => rfl); (case hg => rfl); (case hr => first | (go_simp; done) | (go_simp; rfl)); (case hp => exact (Reps.none _ _)); intro v20 w16 ho_ hb_ hg_ hn_; have HO16 := Aside0.mk ho_; have HB16 := Aside0.mk hb_; clear ho_ hb_ hg_ hn_)
         go_upto_region 32 with ((with_reducible refine gate_builtin (b := .append) (xs := #[.tmp 158, .tmp 161]) rfl ?_); at_builtin; refine Kd.R_append_rows (Kd.raw 1) (w0 := w15) w15.heap.size rfl (.tmp 158) (.tmp 161) 37 49 (.slice none 0 0) 24 rfl Tryd.underlying37 info49 rfl (by decide) (by omega) v20 [] rbt (some adb) a cb (fun _ => True) (fun _ => False) rfl rfl HO16.out (Kd.C_below HRBT.out HB16.out) (fun _ _ h => h) (fun _ h => h.elim) (fun _ _ => trivial) HB16.out (below_size HB16.out) (by simp only [List.length_nil, List.length_append, List.length_take, List.length_singleton, List.length_cons]; omega) ?_; intro v20b w17 ho_ hb_ hg_ ht_; have HO17 := Aside0.mk ho_; have HB17 := Aside0.mk hb_; clear ho_ hb_ hg_ ht_)
         go_upto_region 33 with ((with_reducible refine gate_builtin (b := .append) (xs := #[.tmp 163, .tmp 167]) rfl ?_); at_builtin; refine Kd.R_append_rows (Kd.raw 1) (w0 := w15) w15.heap.size rfl (.tmp 163) (.tmp 167) 37 49 (.slice none 0 0) 24 rfl Tryd.underlying37 info49 rfl (by decide) (by omega) v20b ([] ++ rbt) rbd Ab' (l0.length - a) (cb - (a + 1)) (fun _ => True) (fun _ => False) rfl rfl HO17.out (Kd.C_below HRBD.out HB17.out) (fun _ _ h => h) (fun _ h => h.elim) (fun _ _ => trivial) HB17.out (below_size HB17.out) (by simp only [List.length_nil, List.length_append, List.length_take, List.length_singleton, List.length_cons]; omega) ?_; intro v20c w18 ho_ hb_ hg_ ht_; have HO18 := Aside0.mk ho_; have HB18 := Aside0.mk hb_; clear ho_ hb_ hg_ ht_)
         have hkb : Kinds (Kd.slice 52 k52) w18 (checkF l0 l1) (rbt ++ rbd) := by
          rw [← HCA.out.2.2]
          exact (HKBT.out.below HB18.out).append (HKBD.out.below HB18.out)
         have e20 : [] ++ rbt ++ rbd = rbt ++ rbd := by simp
         rw [e20] at HO18
         obtain ⟨A20, c20, hv20, hcl20, hC20⟩ := Kd.R_reads HO18.out
         rw [hkb.1, HCAL.out] at hv20 hcl20
         rw [hkb.1] at hC20
         subst hv20
         have HD20 := Aside0.mk (show (Kd.slice 52 k52).C w18 A20 l0.length (checkF l0 l1) from by have := C_back (d := Kd.slice 52 k52) hC20 hkb; rwa [HCAL.out] at this)
         have HSD := Aside0.mk (show ∀ W, (Kd.slice 52 k52).C W A20 l0.length (checkF l0 l1) → (Kd.slice 52 k52).C W Aa l0.length (checkF l0 l1) → Calls Tryd.prog 21 #[.slice A20 l0.length c20, .slice Aa l0.length ca] W (fun e w' => e = .returned (.bool true) ∧ Drawn0 W w') from fun W h1 h2 => by
          have := lw_sameDiags.calls kd A20 c20 (checkF l0 l1) Aa ca (checkF l0 l1) true W (by rw [HCAL.out]; exact h1) (by rw [HCAL.out]; exact hcl20) (by rw [HCAL.out]; exact h2) (by rw [HCAL.out]; exact HLA.out) HKD2.out
          rw [HCAL.out] at this
          exact this)
         have HB15w := Aside0.mk (HB14.out.trans (HB15.out.mono HB14.out.size))
         have HB18w := Aside0.mk (HB15w.out.trans (HB18.out.mono HB15w.out.size))
         have HB18b := Aside0.mk (HB10.out.trans (HB18w.out.mono HB10.out.size))
         clear hC20 hkb e20 HO16 HO17 HO18 ht3 hf3 ht0 hf0 ht1 hf1 hcell
         go_upto_region 34 with (go_at_call 14; refine (imports_Order.calls A16 c16 (insL l0 a nm) A17 c17 (insL l1 a o0) _ _ _ w18 (Kd.C_below HC16.out HB18w.out) hcl16 (Kd.C_below HM.out (HB15.out.trans (HB18.out.mono HB15.out.size))) hcl17 HOR.out).mono ?_; rintro e w19 ⟨v21, v22, rfl, h21, h22, hb19⟩; obtain ⟨A21, c21, hv21, hcl21, _⟩ := Kd.R_reads h21; obtain ⟨A22, c22, hv22, hcl22, hC22⟩ := Kd.R_reads h22; rw [HNW.out.first] at hv21 hcl21; subst hv21 hv22; have HC22 := Aside0.mk hC22; have HB19 := Aside0.mk hb19; clear h21 h22 hb19 hC22)
         have HB19b := Aside0.mk (HB18b.out.trans (HB19.out.mono HB18b.out.size))
         go_upto_region 35 with (go_at_call 15; refine (rf_Order.calls ko A0 c0 l0 A1 c1 l1 _ _ _ w19 (Kd.C_below HC0.out HB19b.out) hc0 (Kd.C_below HC1.out HB19b.out) hc1 HKO.out).mono ?_; rintro e w20 ⟨v24, v25, rfl, h24, h25, hb20⟩; obtain ⟨A24, c24, hv24, hcl24, _⟩ := Kd.R_reads h24; obtain ⟨A25, c25, hv25, hcl25, hC25⟩ := Kd.R_reads h25; subst hv24 hv25; have HC25 := Aside0.mk hC25; have HB20 := Aside0.mk hb20; clear h24 h25 hb20 hC25)
         have HB20b := Aside0.mk (HB19b.out.trans (HB20.out.mono HB19b.out.size))
         have hal := ordA_len HSm.out
         go_wp2_with (first | ((try (refine gate_guard (by rfl) ?_; dsimp only)); go_at_call 21; refine (HSD.out w20 (Kd.C_below HD20.out (HB19.out.trans (HB20.out.mono HB19.out.size))) (Kd.C_below HSA.out HB20b.out)).mono ?_; rintro e w21 ⟨rfl, hd⟩; have HB21 := Aside0.mk hd.below; clear hd) | ((try (refine gate_guard (by rfl) ?_; dsimp only)); go_at_call 11; refine (scholiastlaw13_sameTexts.calls kt A22 c22 (ordB l0 l1) A25 c25 (ordB l0 l1) true w21 (Kd.C_below HC22.out (HB20.out.trans (HB21.out.mono HB20.out.size))) hcl22 (Kd.C_below HC25.out HB21.out) hcl25 HKT2.out).mono ?_; rintro e w22 ⟨rfl, hd⟩; have HB22 := Aside0.mk hd.below; clear hd))
         go_ret
         refine ⟨by simp, ?_⟩
         have h1 := HB20b.out
         have h2 := h1.trans (HB21.out.mono h1.size)
         have h3 := h2.trans (HB22.out.mono h2.size)
         exact HB6.out.trans (h3.mono HB6.out.size)
    ·have hrn : (rightF l0 l1 != 0) = true := bne_iff_ne.2 hri
     go_enter Tryd.func6, Tryd.ntmps6
     go_upto_region 4 with (first | (go_at_call 13; refine HW.out.mono ?_; rintro e w1 ⟨rfl, hd⟩; have HD := Aside0.mk hd.below; clear hd))
     rw [← HNM.out]
     go_wp2_with (first | (go_at_call 9; refine (scholiastref13_Split.calls ks nm _ _ _ _ HKS.out).mono ?_; rintro e w2 ⟨rfl, hd⟩; have HD2 := Aside0.mk (HD.out.trans (hd.below.mono HD.out.size)); clear hd) | (go_at_call 18; refine (rf_Check.calls kc _ _ l0 _ _ l1 _ _ w2 (Kd.C_below HR0.out HD2.out) hc0 (Kd.C_below HR1.out HD2.out) hc1 HKC.out).mono ?_; rintro e w3 ⟨va, rfl, hs3, hb3⟩; obtain ⟨Aa, ca, hva, hcla, hCa⟩ := Kd.S_reads hs3; subst hva; have HS3 := Aside0.mk hCa; have HB3 := Aside0.mk (HD2.out.trans (hb3.mono HD2.out.size)); have HLA := Aside0.mk hcla; clear hs3 hb3 hCa hcla))
     go_ret
     exact ⟨rfl, HB3.out⟩
end
end Go.Proofs.YtcejdokeaoklaaaDoor.PImp
/-! ImportsAlone: what the row asks. -/
namespace Go.Proofs.YtcejdokeaoklaaaDoor.PImp
open Go.RowKit Go.Proofs.YtcejdokeaoklaaaDoorW.PrintWords
/-- The law, walked as a whole: it says true. -/
noncomputable def scholiastlaw13_ImportsAlone.f (_k : Nat) (l0 : List ByteArray) (l1 : List S46) (fd : ByteArray) : Option Bool := @ite _ (l0.length < 1048577 ∧ (∀ s ∈ l0, s.size < 1048577) ∧ l1.length < 1048577 ∧ (∀ o ∈ l1, OutLe o 1048577) ∧ fd.size < 1048577) (Classical.propDecidable _) (some true) none
theorem scholiastlaw13_ImportsAlone.calls (k : Nat) (A0 : Option Addr) (c0 : Nat) (l0 : List ByteArray) (A1 : Option Addr) (c1 : Nat) (l1 : List (S46)) (fd : ByteArray) (r : Bool) (w : World) (hr0 : Kd.C Kd.string w A0 l0.length l0) (hc0 : l0.length ≤ c0) (hr1 : Kd.C k46 w A1 l1.length l1) (hc1 : l1.length ≤ c1) (h : scholiastlaw13_ImportsAlone.f k l0 l1 fd = some r) :
    Calls Tryd.prog 6 #[.slice A0 l0.length c0, .slice A1 l1.length c1, .string fd] w fun e w' => e = .returned (.bool r) ∧ Below w.heap.size w w' := by
  unfold scholiastlaw13_ImportsAlone.f at h
  split at h
  · rename_i hs
    obtain rfl := Option.some.inj h
    exact Alone_walk A0 c0 l0 A1 c1 l1 fd w hr0 hc0 hr1 hc1 hs.1 hs.2.1 hs.2.2.1 hs.2.2.2.1 hs.2.2.2.2
  · cases h
theorem ImportsAlone_pure (l0 : List ByteArray) (l1 : List S46) (fd : ByteArray) (hl0 : l0.length < 1048577) (hs : ∀ s ∈ l0, s.size < 1048577) (hl1 : l1.length < 1048577) (ho : ∀ o ∈ l1, OutLe o 1048577) (hf : fd.size < 1048577) : ∃ k, scholiastlaw13_ImportsAlone.f k l0 l1 fd = some true :=
  ⟨0, by unfold scholiastlaw13_ImportsAlone.f; rw [if_pos ⟨hl0, hs, hl1, ho, hf⟩]⟩
end Go.Proofs.YtcejdokeaoklaaaDoor.PImp
