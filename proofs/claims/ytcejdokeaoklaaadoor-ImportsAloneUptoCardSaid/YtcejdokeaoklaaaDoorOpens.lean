import Derived.Test.YtcejdokeaoklaaaDoorRows
import Derived.Test.YtcejdokeaoklaaaDoorPImpx0
import Derived.Deep.Slices
import Derived.Deep.Fields
import Derived.ChangeSame
import Derived.SizedLaws
import Derived.ProofKit
/-
  An argument's reading opened into a list: slices of strings; how long they, and the strings, may be under the bound of an '..UptoSaid'.
-/
namespace Go.Proofs.YtcejdokeaoklaaaDoor.PImp
open Go.RowKit Go.Proofs.YtcejdokeaoklaaaDoorW.PrintWords Go.Proofs.YtcejdokeaoklaaaDoorW.PrintLast Go.Proofs.YtcejdokeaoklaaaDoorW.PrintMore
open Go.ChangeShapes Go.WideShapes Go.Deep
section
variable {H : Type} {enc : TypeId × Value → H} {P : Program} {w : World} {base : Nat} {spare : Nat → Bool} {held : Bool}
/-- A slice's reading: a list of what its elements read as. G: what is known of an element and its datum. -/
theorem open_list {α : Type} {d : Kd α} {t e : TypeId} {G : α → DataW H → Prop} (ht : P.underlying t = some (.slice e)) (hc : P.cellsOf e = d.sz) {fuel : Nat} {cs : List Value} {x : DataW H × List MemPlace}
    (hG : ∀ (fuel : Nat) (cs : List Value) (z : DataW H × List MemPlace), SizeOf.sizeOf z.1 < SizeOf.sizeOf x.1 → DataW.trod enc P w base spare held fuel e cs = some z → ∃ v, d.K w v cs ∧ G v z.1)
    (h : DataW.trod enc P w base spare held fuel t cs = some x) :
    ∃ (A : Option Addr) (xs : List α) (c : Nat), cs = [.slice A xs.length c] ∧ xs.length ≤ c ∧ d.C w A xs.length xs ∧
      ((x.1 = .nil ∧ xs = []) ∨ ∃ elems rest, x.1 = .slice elems rest ∧ elems.length = xs.length ∧ ∀ i (hi : i < xs.length), ∃ y, elems[i]? = some y ∧ G xs[i] y) := by
  rcases open_slice ht h with ⟨rfl, rfl⟩ | ⟨a, len, cap, m, n, D, Pl, rfl, hb, hl, hm, hmm, rfl, hi⟩
  · exact ⟨none, [], 0, rfl, Nat.le_refl _, Kd.C_nil _ _, .inl ⟨rfl, rfl⟩⟩
  · have hlm : len ≤ m := by rw [hmm]; split <;> omega
    have hex : ∀ i : Fin len, ∃ v cs', d.K w v cs' ∧ G v (D i) ∧ cs'.length = d.sz ∧ ∀ j, j < d.sz → w.cell? (a.add (i * d.sz + j)) = cs'[j]? := by
      intro i
      obtain ⟨cs', hcs, htr⟩ := hi i (by omega)
      have hsz : SizeOf.sizeOf (D i) < SizeOf.sizeOf (DataW.slice ((List.range len).map D) ((List.range (m - len)).map fun j => D (len + j))) := by
        have h1 : D i ∈ (List.range len).map D := List.mem_map.2 ⟨i, List.mem_range.2 i.2, rfl⟩
        have h2 := List.sizeOf_lt_of_mem h1
        rw [DataW.slice.sizeOf_spec]
        omega
      obtain ⟨v, hK, hg⟩ := hG _ _ _ hsz htr
      obtain ⟨_, hcl, hat⟩ := World.cells?_some hcs
      rw [hc] at hcl hat
      exact ⟨v, cs', hK, hg, hcl, fun j hj => by rw [← Go.Deep.add_add]; exact hat j hj⟩
    let f : Fin len → α := fun i => Classical.choose (hex i)
    have hf : ∀ i, ∃ cs', d.K w (f i) cs' ∧ G (f i) (D i) ∧ cs'.length = d.sz ∧ ∀ j, j < d.sz → w.cell? (a.add (i * d.sz + j)) = cs'[j]? := fun i => Classical.choose_spec (hex i)
    have hlen : (List.ofFn f).length = len := List.length_ofFn
    refine ⟨some a, List.ofFn f, cap, by rw [hlen], by rw [hlen]; exact hl, ?_, .inr ⟨_, _, rfl, by simp, ?_⟩⟩
    · refine ⟨rfl, by rw [hlen]; unfold maxLen at hm; omega, fun _ => ⟨a, rfl, ?_⟩⟩
      intro j p hp
      obtain ⟨hjl, hpj⟩ := List.getElem?_eq_some_iff.1 hp
      rw [hlen] at hjl
      rw [List.getElem_ofFn] at hpj
      obtain ⟨cs', hK, _, hcl, hat⟩ := hf ⟨j, hjl⟩
      refine ⟨cs', hcl, by rw [← hpj]; exact hK, fun i u hu => ?_⟩
      have hil : i < d.sz := by rw [← hcl]; exact (List.getElem?_eq_some_iff.1 hu).1
      exact (hat i hil).trans hu
    · intro i hi'
      rw [hlen] at hi'
      obtain ⟨cs', _, hg, _⟩ := hf ⟨i, hi'⟩
      refine ⟨D i, by simp [hi'], ?_⟩
      rw [List.getElem_ofFn]
      exact hg
/-- A string and its datum. -/
def strG (v : ByteArray) (d : DataW H) : Prop := d = .lit (.string v.data.toList) ∧ v.size ≤ maxLen
theorem str_reads {t : TypeId} (ht : P.underlying t = some .string) (fuel : Nat) (cs : List Value) (x : DataW H × List MemPlace) (h : DataW.trod enc P w base spare held fuel t cs = some x) : ∃ v, Kd.string.K w v cs ∧ strG v x.1 := by
  obtain ⟨s, rfl, rfl, hs⟩ := DataW.trod_string ht h
  exact ⟨s, rfl, rfl, hs⟩
end
theorem bulk_pos {H : Type} (d : DataW H) : 1 ≤ Rows.uptoBulk d := by
  cases d with
  | lit l => cases l <;> simp [Rows.uptoBulk]
  | nil => simp [Rows.uptoBulk]
  | ptr d => simp [Rows.uptoBulk]
  | slice elems spare => simp [Rows.uptoBulk]
  | agg parts => simp [Rows.uptoBulk]
  | iface t d => simp [Rows.uptoBulk]
  | map entries => simp [Rows.uptoBulk]
  | held h => simp [Rows.uptoBulk]
theorem bulk_length {H : Type} (l : List (DataW H)) : l.length ≤ Rows.uptoBulkAll l := by
  induction l with
  | nil => simp [Rows.uptoBulkAll]
  | cons x r ih => have := bulk_pos x; simp only [Rows.uptoBulkAll, List.length_cons]; omega
theorem bulk_part {H : Type} {d : DataW H} {l : List (DataW H)} (h : d ∈ l) : Rows.uptoBulk d ≤ Rows.uptoBulkAll l := by
  induction l with
  | nil => cases h
  | cons x r ih =>
    simp only [Rows.uptoBulkAll]
    cases List.mem_cons.1 h with
    | inl e => subst e; omega
    | inr e => have := ih e; omega
/-- How many there are, and how great each is. -/
theorem list_bulk {α H : Type} {G : α → DataW H → Prop} {d : DataW H} {xs : List α}
    (h : (d = .nil ∧ xs = []) ∨ ∃ elems rest, d = .slice elems rest ∧ elems.length = xs.length ∧ ∀ i (hi : i < xs.length), ∃ y, elems[i]? = some y ∧ G xs[i] y) :
    xs.length < Rows.uptoBulk d ∧ ∀ x ∈ xs, ∃ y, G x y ∧ Rows.uptoBulk y < Rows.uptoBulk d := by
  rcases h with ⟨rfl, rfl⟩ | ⟨elems, rest, rfl, hl, hg⟩
  · exact ⟨by simp [Rows.uptoBulk], by simp⟩
  · have := bulk_length elems
    simp only [Rows.uptoBulk]
    refine ⟨by omega, fun x hx => ?_⟩
    obtain ⟨i, hi, rfl⟩ := List.mem_iff_getElem.1 hx
    obtain ⟨y, hy, hgy⟩ := hg i hi
    have := bulk_part (List.mem_of_getElem? hy)
    exact ⟨y, hgy, by omega⟩
theorem str_bulk {H : Type} {v : ByteArray} {d : DataW H} (h : strG v d) : v.size < Rows.uptoBulk d := by
  rw [h.1]
  simp only [Rows.uptoBulk]
  rw [Array.length_toList, ByteArray.size_data]
  omega
end Go.Proofs.YtcejdokeaoklaaaDoor.PImp

/-
  The reading of a slice of outlines opened into a list.
-/
set_option linter.unusedVariables false
set_option maxRecDepth 100000
namespace Go.Proofs.YtcejdokeaoklaaaDoor.PImp
open Go.RowKit Go.Proofs.YtcejdokeaoklaaaDoorW.PrintWords Go.Proofs.YtcejdokeaoklaaaDoorW.PrintLast Go.Proofs.YtcejdokeaoklaaaDoorW.PrintMore
open Go.ChangeShapes Go.WideShapes Go.Deep
theorem cl3 : Tryd.prog.cellsOf 3 = 1 := by kernel_rfl
theorem cl4 : Tryd.prog.cellsOf 4 = 1 := by kernel_rfl
theorem cl9 : Tryd.prog.cellsOf 9 = 1 := by kernel_rfl
theorem cl42 : Tryd.prog.cellsOf 42 = 3 := by kernel_rfl
theorem cl43 : Tryd.prog.cellsOf 43 = 1 := by kernel_rfl
theorem cl44 : Tryd.prog.cellsOf 44 = 1 := by kernel_rfl
theorem cl46 : Tryd.prog.cellsOf 46 = 5 := by kernel_rfl
theorem cl48 : Tryd.prog.cellsOf 48 = 4 := by kernel_rfl
theorem cl131 : Tryd.prog.cellsOf 131 = 1 := by kernel_rfl
theorem cl132 : Tryd.prog.cellsOf 132 = 1 := by kernel_rfl
theorem cl134 : Tryd.prog.cellsOf 134 = 4 := by kernel_rfl
theorem cl136 : Tryd.prog.cellsOf 136 = 13 := by kernel_rfl
/-- How great what stands in an outline is. -/
structure OutLe (v : S46) (N : Nat) : Prop where
  len : v.f1.length < N
  paths : ∀ m ∈ v.f1, m.f1.size < N
theorem OutLe.mono {v : S46} {N M : Nat} (h : OutLe v N) (hn : N ≤ M) : OutLe v M := ⟨by have := h.len; omega, fun m hm => by have := h.paths m hm; omega⟩
section
variable {H : Type} {enc : TypeId × Value → H} {w : World} {base : Nat} {spare : Nat → Bool} {held : Bool}
theorem field_of {t : TypeId} {fs : Array Field} (ht : Tryd.prog.underlying t = some (.struct fs)) {fuel : Nat} {cs : List Value} {x : DataW H × List MemPlace} (h : DataW.trod enc Tryd.prog w base spare held fuel t cs = some x) :
    cs.length = Tryd.prog.cellsOf t ∧ ∃ n, ∀ (i : Nat) (u : TypeId) (o : Nat), (fs[i]?).map (fun f => (f.type, f.offset)) = some (u, o) → ∃ z, DataW.trod enc Tryd.prog w base spare held n u ((cs.drop o).take (Tryd.prog.cellsOf u)) = some z ∧ SizeOf.sizeOf z.1 < SizeOf.sizeOf x.1 ∧ Rows.uptoBulk z.1 < Rows.uptoBulk x.1 := by
  obtain ⟨ys, n, _, rfl, hlen, hyl, hf⟩ := DataW.trod_struct ht h
  refine ⟨hlen, n, fun i u o hio => ?_⟩
  obtain ⟨f, hi, he⟩ := Option.map_eq_some_iff.1 hio
  obtain ⟨rfl, rfl⟩ := Prod.mk.inj he
  have hlt : i < ys.length := by rw [hyl]; exact (Array.getElem?_eq_some_iff.1 hi).1
  have := hf i f hi
  rw [List.getElem?_eq_getElem hlt] at this
  have hm : ys[i].1 ∈ ys.map (·.1) := List.mem_map.2 ⟨_, List.getElem_mem hlt, rfl⟩
  refine ⟨ys[i], this, ?_, ?_⟩
  · have h2 := List.sizeOf_lt_of_mem hm
    rw [DataW.agg.sizeOf_spec]
    omega
  · have := bulk_part hm
    simp only [Rows.uptoBulk]
    omega
theorem ident_reads (fuel : Nat) (cs : List Value) (x : DataW H × List MemPlace) (h : DataW.trod enc Tryd.prog w base spare held fuel 42 cs = some x) : ∃ v, k42.K w v cs ∧ True := by
  obtain ⟨hl, n, hf⟩ := field_of Tryd.underlying42 h
  rw [cl42] at hl
  match cs, hl with
  | [c0, c1, c2], _ =>
    obtain ⟨z0, h0, _⟩ := hf 0 9 0 rfl
    obtain ⟨z1, h1, _⟩ := hf 1 3 1 rfl
    obtain ⟨z2, h2, _⟩ := hf 2 3 2 rfl
    simp only [cl9, cl3, List.drop_succ_cons, List.drop_zero, List.take_succ_cons, List.take_zero] at h0 h1 h2
    obtain ⟨s0, e0, _⟩ := DataW.trod_string Tryd.underlying9 h0
    obtain ⟨n1, e1, _⟩ := DataW.trod_int Tryd.underlying3 h1
    obtain ⟨n2, e2, _⟩ := DataW.trod_int Tryd.underlying3 h2
    simp only [List.cons.injEq, and_true] at e0 e1 e2
    subst e0 e1 e2
    exact ⟨⟨s0, n1, n2⟩, k42_mk w ⟨s0, n1, n2⟩, trivial⟩
def impG (v : S48) (d : DataW H) : Prop := v.f1.size < Rows.uptoBulk d
theorem import_reads (fuel : Nat) (cs : List Value) (x : DataW H × List MemPlace) (h : DataW.trod enc Tryd.prog w base spare held fuel 48 cs = some x) : ∃ v, k48.K w v cs ∧ impG v x.1 := by
  obtain ⟨hl, n, hf⟩ := field_of Tryd.underlying48 h
  rw [cl48] at hl
  match cs, hl with
  | [c0, c1, c2, c3], _ =>
    obtain ⟨z0, h0, _⟩ := hf 0 9 0 rfl
    obtain ⟨z1, h1, _, hb⟩ := hf 1 9 1 rfl
    obtain ⟨z2, h2, _⟩ := hf 2 3 2 rfl
    obtain ⟨z3, h3, _⟩ := hf 3 3 3 rfl
    simp only [cl9, cl3, List.drop_succ_cons, List.drop_zero, List.take_succ_cons, List.take_zero] at h0 h1 h2 h3
    obtain ⟨s0, e0, _⟩ := DataW.trod_string Tryd.underlying9 h0
    obtain ⟨s1, e1, g1, m1⟩ := DataW.trod_string Tryd.underlying9 h1
    obtain ⟨n2, e2, _⟩ := DataW.trod_int Tryd.underlying3 h2
    obtain ⟨n3, e3, _⟩ := DataW.trod_int Tryd.underlying3 h3
    simp only [List.cons.injEq, and_true] at e0 e1 e2 e3
    subst e0 e1 e2 e3
    refine ⟨⟨s0, s1, n2, n3⟩, k48_mk w ⟨s0, s1, n2, n3⟩, ?_⟩
    have := str_bulk (v := s1) (d := z1.1) ⟨by rw [g1], m1⟩
    unfold impG
    simp only
    omega
theorem node_reads : ∀ (N : Nat) (fuel : Nat) (cs : List Value) (x : DataW H × List MemPlace), SizeOf.sizeOf x.1 ≤ N → DataW.trod enc Tryd.prog w base spare held fuel 134 cs = some x → ∃ v, k134.K w v cs ∧ True := by
  intro N
  induction N with
  | zero =>
    intro fuel cs x hN h
    obtain ⟨_, n, hf⟩ := field_of Tryd.underlying134 h
    obtain ⟨z0, _, hs, _⟩ := hf 0 3 0 rfl
    omega
  | succ N ih =>
    intro fuel cs x hN h
    obtain ⟨hl, n, hf⟩ := field_of Tryd.underlying134 h
    rw [cl134] at hl
    match cs, hl with
    | [c0, c1, c2, c3], _ =>
      obtain ⟨z0, h0, _⟩ := hf 0 3 0 rfl
      obtain ⟨z1, h1, _⟩ := hf 1 3 1 rfl
      obtain ⟨z2, h2, _⟩ := hf 2 3 2 rfl
      obtain ⟨z3, h3, hs3, _⟩ := hf 3 132 3 rfl
      simp only [cl132, cl3, List.drop_succ_cons, List.drop_zero, List.take_succ_cons, List.take_zero] at h0 h1 h2 h3
      obtain ⟨n0, e0, _⟩ := DataW.trod_int Tryd.underlying3 h0
      obtain ⟨n1, e1, _⟩ := DataW.trod_int Tryd.underlying3 h1
      obtain ⟨n2, e2, _⟩ := DataW.trod_int Tryd.underlying3 h2
      obtain ⟨A, xs, c, e3, hcl, hC, _⟩ := open_list (d := k134) (G := fun _ _ => True) Tryd.underlying132 cl134 (fun f c z hz hh => ih f c z (by omega) hh) h3
      simp only [List.cons.injEq, and_true] at e0 e1 e2 e3
      subst e0 e1 e2 e3
      exact ⟨⟨n0, n1, n2, xs⟩, k134_mk w ⟨n0, n1, n2, xs⟩ hcl hC, trivial⟩
theorem decl_reads (fuel : Nat) (cs : List Value) (x : DataW H × List MemPlace) (h : DataW.trod enc Tryd.prog w base spare held fuel 136 cs = some x) : ∃ v, k136.K w v cs ∧ True := by
  obtain ⟨hl, n, hf⟩ := field_of Tryd.underlying136 h
  rw [cl136] at hl
  match cs, hl with
  | [c0, c1, c2, c3, c4, c5, c6, c7, c8, c9, c10, c11, c12], _ =>
    obtain ⟨z0, h0, _⟩ := hf 0 3 0 rfl
    obtain ⟨z1, h1, _⟩ := hf 1 131 1 rfl
    obtain ⟨z2, h2, _⟩ := hf 2 9 2 rfl
    obtain ⟨z3, h3, _⟩ := hf 3 4 3 rfl
    obtain ⟨z4, h4, _⟩ := hf 4 134 4 rfl
    obtain ⟨z5, h5, _⟩ := hf 5 134 8 rfl
    obtain ⟨z6, h6, _⟩ := hf 6 3 12 rfl
    simp only [cl3, cl131, cl9, cl4, cl134, List.drop_succ_cons, List.drop_zero, List.take_succ_cons, List.take_zero] at h0 h1 h2 h3 h4 h5 h6
    obtain ⟨n0, e0, _⟩ := DataW.trod_int Tryd.underlying3 h0
    obtain ⟨A1, x1, d1, e1, hcl1, hC1, _⟩ := open_list (d := k42) (G := fun _ _ => True) Tryd.underlying131 cl42 (fun f c z hz hh => ident_reads f c z hh) h1
    obtain ⟨s2, e2, _⟩ := DataW.trod_string Tryd.underlying9 h2
    obtain ⟨b3, e3, _⟩ := DataW.trod_bool Tryd.underlying4 h3
    obtain ⟨v4, k4, _⟩ := node_reads _ _ _ _ (Nat.le_refl _) h4
    obtain ⟨v5, k5, _⟩ := node_reads _ _ _ _ (Nat.le_refl _) h5
    obtain ⟨n6, e6, _⟩ := DataW.trod_int Tryd.underlying3 h6
    obtain ⟨A7, d7, e4, hcl7, hC7⟩ := k134_open k4
    obtain ⟨A11, d11, e5, hcl11, hC11⟩ := k134_open k5
    simp only [List.cons.injEq, and_true] at e0 e1 e2 e3 e4 e5 e6
    obtain ⟨rfl, rfl, rfl, rfl⟩ := e4
    obtain ⟨rfl, rfl, rfl, rfl⟩ := e5
    subst e0 e1 e2 e3 e6
    exact ⟨⟨n0, x1, s2, b3, v4, v5, n6⟩, k136_mk w ⟨n0, x1, s2, b3, v4, v5, n6⟩ hcl1 hC1 hcl7 hC7 hcl11 hC11, trivial⟩
def outG (v : S46) (d : DataW H) : Prop := OutLe v (Rows.uptoBulk d)
theorem out_bulk {v : S46} {d : DataW H} (h : outG v d) : OutLe v (Rows.uptoBulk d) := h
theorem out_reads (fuel : Nat) (cs : List Value) (x : DataW H × List MemPlace) (h : DataW.trod enc Tryd.prog w base spare held fuel 46 cs = some x) : ∃ v, k46.K w v cs ∧ outG v x.1 := by
  obtain ⟨hl, n, hf⟩ := field_of Tryd.underlying46 h
  rw [cl46] at hl
  match cs, hl with
  | [c0, c1, c2, c3, c4], _ =>
    obtain ⟨z0, h0, _⟩ := hf 0 42 0 rfl
    obtain ⟨z1, h1, _, hb⟩ := hf 1 43 3 rfl
    obtain ⟨z2, h2, _⟩ := hf 2 44 4 rfl
    simp only [cl42, cl43, cl44, List.drop_succ_cons, List.drop_zero, List.take_succ_cons, List.take_zero] at h0 h1 h2
    obtain ⟨v0, k0, _⟩ := ident_reads _ _ _ h0
    obtain ⟨A1, x1, d1, e1, hcl1, hC1, hg1⟩ := open_list (d := k48) (G := impG) Tryd.underlying43 cl48 (fun f c z hz hh => import_reads f c z hh) h1
    obtain ⟨A2, x2, d2, e2, hcl2, hC2, _⟩ := open_list (d := k136) (G := fun _ _ => True) Tryd.underlying44 cl136 (fun f c z hz hh => decl_reads f c z hh) h2
    have e0 := k42_open k0
    simp only [List.cons.injEq, and_true] at e0 e1 e2
    obtain ⟨rfl, rfl, rfl⟩ := e0
    subst e1 e2
    obtain ⟨b1, b2⟩ := list_bulk hg1
    refine ⟨⟨v0, x1, x2⟩, k46_mk w ⟨v0, x1, x2⟩ hcl1 hC1 hcl2 hC2, ⟨?_, fun m hm => ?_⟩⟩
    · simp only
      omega
    · obtain ⟨y, hy, hlt⟩ := b2 m hm
      unfold impG at hy
      omega
end
end Go.Proofs.YtcejdokeaoklaaaDoor.PImp
