/-
  An argument's reading opened into a list: slices of strings; how long they, and the strings, may be under the bound of an '..UptoSaid'.
-/
import Derived.Test.YtcejdokeaoklaaaDoorRows
import Derived.Test.YtcejdokeaoklaaaDoorPImpx0
import Derived.Deep.Slices
import Derived.Deep.Fields
import Derived.ChangeSame
import Derived.SizedLaws
import Derived.ProofKit
namespace Go.Proofs.YtcejdokeaoklaaaDoor.PImp
open Go.RowKit Go.Proofs.YtcejdokeaoklaaaDoorW.PrintWords Go.Proofs.YtcejdokeaoklaaaDoorW.PrintLast Go.Proofs.YtcejdokeaoklaaaDoorW.PrintMore
open Go.ChangeShapes Go.WideShapes Go.Deep
section
variable {H : Type} {enc : TypeId × Value → H} {P : Program} {w : World} {base : Nat} {spare : Nat → Bool} {held : Bool}
/-- A slice's reading: a list of what its elements read as. G: what is known of an element and its datum. -/
theorem open_list {α : Type} {d : Kd α} {t e : TypeId} {G : α → DataW H → Prop} (ht : P.underlying t = some (.slice e)) (hc : P.cellsOf e = d.sz) {fuel : Nat} {cs : List Value} {x : DataW H × List MemPlace}
    (hG : ∀ (fuel : Nat) (cs : List Value) (z : DataW H × List MemPlace), SizeOf.sizeOf z.1 < SizeOf.sizeOf x.1 → DataW.trod enc P w base spare held fuel e cs = some z → ∃ v, d.K w v cs ∧ G v z.1)
    (h : DataW.trod enc P w base spare held fuel t cs = some x) :
    ∃ (A : Option Addr) (xs : List α) (c : Nat), cs = [.slice A xs.length c] ∧ xs.length ≤ c ∧ d.C w A xs.length xs ∧
      ((x.1 = .nil ∧ xs = []) ∨ ∃ elems rest, x.1 = .slice elems rest ∧ elems.length = xs.length ∧ ∀ i (hi : i < xs.length), ∃ y, elems[i]? = some y ∧ G xs[i] y) := by
  rcases open_slice ht h with ⟨rfl, rfl⟩ | ⟨a, len, cap, m, n, D, Pl, rfl, hb, hl, hm, hmm, rfl, hi⟩
  · exact ⟨none, [], 0, rfl, Nat.le_refl _, Kd.C_nil _ _, .inl ⟨rfl, rfl⟩⟩
  · have hlm : len ≤ m := by rw [hmm]; split <;> omega
    have hex : ∀ i : Fin len, ∃ v cs', d.K w v cs' ∧ G v (D i) ∧ cs'.length = d.sz ∧ ∀ j, j < d.sz → w.cell? (a.add (i * d.sz + j)) = cs'[j]? := by
      intro i
      obtain ⟨cs', hcs, htr⟩ := hi i (by omega)
      have hsz : SizeOf.sizeOf (D i) < SizeOf.sizeOf (DataW.slice ((List.range len).map D) ((List.range (m - len)).map fun j => D (len + j))) := by
        have h1 : D i ∈ (List.range len).map D := List.mem_map.2 ⟨i, List.mem_range.2 i.2, rfl⟩
        have h2 := List.sizeOf_lt_of_mem h1
        rw [DataW.slice.sizeOf_spec]
        omega
      obtain ⟨v, hK, hg⟩ := hG _ _ _ hsz htr
      obtain ⟨_, hcl, hat⟩ := World.cells?_some hcs
      rw [hc] at hcl hat
      exact ⟨v, cs', hK, hg, hcl, fun j hj => by rw [← Go.Deep.add_add]; exact hat j hj⟩
    let f : Fin len → α := fun i => Classical.choose (hex i)
    have hf : ∀ i, ∃ cs', d.K w (f i) cs' ∧ G (f i) (D i) ∧ cs'.length = d.sz ∧ ∀ j, j < d.sz → w.cell? (a.add (i * d.sz + j)) = cs'[j]? := fun i => Classical.choose_spec (hex i)
    have hlen : (List.ofFn f).length = len := List.length_ofFn
    refine ⟨some a, List.ofFn f, cap, by rw [hlen], by rw [hlen]; exact hl, ?_, .inr ⟨_, _, rfl, by simp, ?_⟩⟩
    · refine ⟨rfl, by rw [hlen]; unfold maxLen at hm; omega, fun _ => ⟨a, rfl, ?_⟩⟩
      intro j p hp
      obtain ⟨hjl, hpj⟩ := List.getElem?_eq_some_iff.1 hp
      rw [hlen] at hjl
      rw [List.getElem_ofFn] at hpj
      obtain ⟨cs', hK, _, hcl, hat⟩ := hf ⟨j, hjl⟩
      refine ⟨cs', hcl, by rw [← hpj]; exact hK, fun i u hu => ?_⟩
      have hil : i < d.sz := by rw [← hcl]; exact (List.getElem?_eq_some_iff.1 hu).1
      exact (hat i hil).trans hu
    · intro i hi'
      rw [hlen] at hi'
      obtain ⟨cs', _, hg, _⟩ := hf ⟨i, hi'⟩
      refine ⟨D i, by simp [hi'], ?_⟩
      rw [List.getElem_ofFn]
      exact hg
/-- A string and its datum. -/
def strG (v : ByteArray) (d : DataW H) : Prop := d = .lit (.string v.data.toList) ∧ v.size ≤ maxLen
theorem str_reads {t : TypeId} (ht : P.underlying t = some .string) (fuel : Nat) (cs : List Value) (x : DataW H × List MemPlace) (h : DataW.trod enc P w base spare held fuel t cs = some x) : ∃ v, Kd.string.K w v cs ∧ strG v x.1 := by
  obtain ⟨s, rfl, rfl, hs⟩ := DataW.trod_string ht h
  exact ⟨s, rfl, rfl, hs⟩
end
theorem bulk_pos {H : Type} (d : DataW H) : 1 ≤ Rows.uptoBulk d := by
  cases d with
  | lit l => cases l <;> simp [Rows.uptoBulk]
  | nil => simp [Rows.uptoBulk]
  | ptr d => simp [Rows.uptoBulk]
  | slice elems spare => simp [Rows.uptoBulk]
  | agg parts => simp [Rows.uptoBulk]
  | iface t d => simp [Rows.uptoBulk]
  | map entries => simp [Rows.uptoBulk]
  | held h => simp [Rows.uptoBulk]
theorem bulk_length {H : Type} (l : List (DataW H)) : l.length ≤ Rows.uptoBulkAll l := by
  induction l with
  | nil => simp [Rows.uptoBulkAll]
  | cons x r ih => have := bulk_pos x; simp only [Rows.uptoBulkAll, List.length_cons]; omega
theorem bulk_part {H : Type} {d : DataW H} {l : List (DataW H)} (h : d ∈ l) : Rows.uptoBulk d ≤ Rows.uptoBulkAll l := by
  induction l with
  | nil => cases h
  | cons x r ih =>
    simp only [Rows.uptoBulkAll]
    cases List.mem_cons.1 h with
    | inl e => subst e; omega
    | inr e => have := ih e; omega
/-- How many there are, and how great each is. -/
theorem list_bulk {α H : Type} {G : α → DataW H → Prop} {d : DataW H} {xs : List α}
    (h : (d = .nil ∧ xs = []) ∨ ∃ elems rest, d = .slice elems rest ∧ elems.length = xs.length ∧ ∀ i (hi : i < xs.length), ∃ y, elems[i]? = some y ∧ G xs[i] y) :
    xs.length < Rows.uptoBulk d ∧ ∀ x ∈ xs, ∃ y, G x y ∧ Rows.uptoBulk y < Rows.uptoBulk d := by
  rcases h with ⟨rfl, rfl⟩ | ⟨elems, rest, rfl, hl, hg⟩
  · exact ⟨by simp [Rows.uptoBulk], by simp⟩
  · have := bulk_length elems
    simp only [Rows.uptoBulk]
    refine ⟨by omega, fun x hx => ?_⟩
    obtain ⟨i, hi, rfl⟩ := List.mem_iff_getElem.1 hx
    obtain ⟨y, hy, hgy⟩ := hg i hi
    have := bulk_part (List.mem_of_getElem? hy)
    exact ⟨y, hgy, by omega⟩
theorem str_bulk {H : Type} {v : ByteArray} {d : DataW H} (h : strG v d) : v.size < Rows.uptoBulk d := by
  rw [h.1]
  simp only [Rows.uptoBulk]
  rw [Array.length_toList, ByteArray.size_data]
  omega
end Go.Proofs.YtcejdokeaoklaaaDoor.PImp
