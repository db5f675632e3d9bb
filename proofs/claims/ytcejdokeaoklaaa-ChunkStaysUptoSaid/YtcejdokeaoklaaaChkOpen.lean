/-
  An argument's reading opened into a list: slices of tokens, of rows, of numbers; how long they may be.
-/
import Derived.Test.YtcejdokeaoklaaaPChkx0
import Derived.Deep.Slices
import Derived.Deep.Fields
import Derived.ChangeSame
import Derived.SizedLaws
import Derived.ProofKit
namespace Go.Proofs.Ytcejdokeaoklaaa.PChk
open Go.RowKit Go.Proofs.YtcejdokeaoklaaaW.PrintWords Go.Proofs.YtcejdokeaoklaaaW.PrintLast Go.Proofs.YtcejdokeaoklaaaW.PrintMore
open Go.ChangeShapes Go.WideShapes Go.Deep

section
variable {H : Type} {enc : TypeId × Value → H} {P : Program} {w : World} {base : Nat} {spare : Nat → Bool} {held : Bool}

/-- A slice's reading: a list of what its elements read as. G: what is known of an element and its datum. -/
theorem open_list {α : Type} {d : Kd α} {t e : TypeId} {G : α → DataW H → Prop} (ht : P.underlying t = some (.slice e)) (hc : P.cellsOf e = d.sz)
    (hG : ∀ (fuel : Nat) (cs : List Value) (x : DataW H × List MemPlace), DataW.trod enc P w base spare held fuel e cs = some x → ∃ v, d.K w v cs ∧ G v x.1)
    {fuel : Nat} {cs : List Value} {x : DataW H × List MemPlace} (h : DataW.trod enc P w base spare held fuel t cs = some x) :
    ∃ (A : Option Addr) (xs : List α) (c : Nat), cs = [.slice A xs.length c] ∧ xs.length ≤ c ∧ d.C w A xs.length xs ∧
      ((x.1 = .nil ∧ xs = []) ∨ ∃ elems rest, x.1 = .slice elems rest ∧ elems.length = xs.length ∧ ∀ i (hi : i < xs.length), ∃ y, elems[i]? = some y ∧ G xs[i] y) := by
  rcases open_slice ht h with ⟨rfl, rfl⟩ | ⟨a, len, cap, m, n, D, Pl, rfl, hb, hl, hm, hmm, rfl, hi⟩
  · exact ⟨none, [], 0, rfl, Nat.le_refl _, Kd.C_nil _ _, .inl ⟨rfl, rfl⟩⟩
  · have hlm : len ≤ m := by rw [hmm]; split <;> omega
    have hex : ∀ i : Fin len, ∃ v cs', d.K w v cs' ∧ G v (D i) ∧ cs'.length = d.sz ∧ ∀ j, j < d.sz → w.cell? (a.add (i * d.sz + j)) = cs'[j]? := by
      intro i
      obtain ⟨cs', hcs, htr⟩ := hi i (by omega)
      obtain ⟨v, hK, hg⟩ := hG _ _ _ htr
      obtain ⟨_, hcl, hat⟩ := World.cells?_some hcs
      rw [hc] at hcl hat
      exact ⟨v, cs', hK, hg, hcl, fun j hj => by rw [← Go.Deep.add_add]; exact hat j hj⟩
    let f : Fin len → α := fun i => Classical.choose (hex i)
    have hf : ∀ i, ∃ cs', d.K w (f i) cs' ∧ G (f i) (D i) ∧ cs'.length = d.sz ∧ ∀ j, j < d.sz → w.cell? (a.add (i * d.sz + j)) = cs'[j]? := fun i => Classical.choose_spec (hex i)
    have hlen : (List.ofFn f).length = len := List.length_ofFn
    refine ⟨some a, List.ofFn f, cap, by rw [hlen], by rw [hlen]; exact hl, ?_, .inr ⟨_, _, rfl, by simp, ?_⟩⟩
    · refine ⟨rfl, by rw [hlen]; unfold maxLen at hm; omega, fun _ => ⟨a, rfl, ?_⟩⟩
      intro j p hp
      obtain ⟨hjl, hpj⟩ := List.getElem?_eq_some_iff.1 hp
      rw [hlen] at hjl
      rw [List.getElem_ofFn] at hpj
      obtain ⟨cs', hK, _, hcl, hat⟩ := hf ⟨j, hjl⟩
      refine ⟨cs', hcl, by rw [← hpj]; exact hK, fun i u hu => ?_⟩
      have hil : i < d.sz := by rw [← hcl]; exact (List.getElem?_eq_some_iff.1 hu).1
      exact (hat i hil).trans hu
    · intro i hi'
      rw [hlen] at hi'
      obtain ⟨cs', _, hg, _⟩ := hf ⟨i, hi'⟩
      refine ⟨D i, by simp [hi'], ?_⟩
      rw [List.getElem_ofFn]
      exact hg

/-- How many elements may come in. -/
theorem list_sized {α : Type} {t e : TypeId} {G : α → DataW H → Prop} {d : DataW H} {xs : List α} {ts : List TypeId} {ds : List (DataW H)} {j : Nat} (hsz : (DataW.weightsEach P ts ds).all (· ≤ reachBytes) = true) (ht : ts[j]? = some t) (hd : ds[j]? = some d) (hu : P.underlying t = some (.slice e)) {B : Nat} (hB : P.bytesOf e = B)
    (h : (d = .nil ∧ xs = []) ∨ ∃ elems rest, d = .slice elems rest ∧ elems.length = xs.length ∧ ∀ i (hi : i < xs.length), ∃ y, elems[i]? = some y ∧ G xs[i] y) : xs.length * B ≤ 140737488351232 := by
  rcases h with ⟨_, rfl⟩ | ⟨elems, rest, rfl, hl, _⟩
  · simp
  · have z := sized_slice hsz ht hd hu
    rw [hB] at z
    have hr : reachBytes = 140737488351232 := by decide
    rw [hr] at z
    have : xs.length * B ≤ (elems.length + rest.length) * B := Nat.mul_le_mul_right _ (by omega)
    omega

theorem int_reads {t : TypeId} {k : IntKind} (ht : P.underlying t = some (.int k)) : ∀ (fuel : Nat) (cs : List Value) (x : DataW H × List MemPlace), DataW.trod enc P w base spare held fuel t cs = some x → ∃ v, (Kd.int k).K w v cs ∧ (x.1 = .lit (.int k v) ∧ (Lit.int k v).wf = true) := by
  intro fuel cs x h
  obtain ⟨n, rfl, rfl, hw⟩ := DataW.trod_int ht h
  exact ⟨n, rfl, rfl, hw⟩

theorem tok_reads {x3 : P.underlying 3 = some (.int .i64)} (hone : oneCellFields P #[{ name := "Kind", type := 3, offset := 0, embedded := false, tag := "", pkgPath := "", byteOffset := 0 }, { name := "From", type := 3, offset := 1, embedded := false, tag := "", pkgPath := "", byteOffset := 8 }, { name := "To", type := 3, offset := 2, embedded := false, tag := "", pkgPath := "", byteOffset := 16 }] = true)
    (ht : P.underlying 25 = some (.struct #[{ name := "Kind", type := 3, offset := 0, embedded := false, tag := "", pkgPath := "", byteOffset := 0 }, { name := "From", type := 3, offset := 1, embedded := false, tag := "", pkgPath := "", byteOffset := 8 }, { name := "To", type := 3, offset := 2, embedded := false, tag := "", pkgPath := "", byteOffset := 16 }])) (hC : P.cellsOf 25 = 3) :
    ∀ (fuel : Nat) (cs : List Value) (x : DataW H × List MemPlace), DataW.trod enc P w base spare held fuel 25 cs = some x → ∃ v, k25.K w v cs ∧ True := by
  intro fuel cs x h
  obtain ⟨ys, n, _, _, hlen, hyl, hf⟩ := DataW.trod_struct ht h
  rw [hC] at hlen
  match cs, hlen with
  | [c0, c1, c2], _ =>
    have h0 := hf 0 _ rfl
    have h1 := hf 1 _ rfl
    have h2 := hf 2 _ rfl
    obtain ⟨o0, k0⟩ := hone_of hone 0 _ rfl
    obtain ⟨o1, k1⟩ := hone_of hone 1 _ rfl
    obtain ⟨o2, k2⟩ := hone_of hone 2 _ rfl
    match ys, hyl with
    | [y0, y1, y2], _ =>
      rw [k0] at h0
      rw [k1] at h1
      rw [k2] at h2
      obtain ⟨n0, e0, _, _⟩ := DataW.trod_int x3 (show DataW.trod enc P w base spare held n 3 [c0] = some y0 from h0)
      obtain ⟨n1, e1, _, _⟩ := DataW.trod_int x3 (show DataW.trod enc P w base spare held n 3 [c1] = some y1 from h1)
      obtain ⟨n2, e2, _, _⟩ := DataW.trod_int x3 (show DataW.trod enc P w base spare held n 3 [c2] = some y2 from h2)
      simp only [List.cons.injEq, and_true] at e0 e1 e2
      subst e0 e1 e2
      exact ⟨⟨n0, n1, n2⟩, k25_mk w ⟨n0, n1, n2⟩, trivial⟩

theorem span_reads {x3 : P.underlying 3 = some (.int .i64)} (hone : oneCellFields P #[{ name := "From", type := 3, offset := 0, embedded := false, tag := "", pkgPath := "", byteOffset := 0 }, { name := "To", type := 3, offset := 1, embedded := false, tag := "", pkgPath := "", byteOffset := 8 }] = true)
    (ht : P.underlying 30 = some (.struct #[{ name := "From", type := 3, offset := 0, embedded := false, tag := "", pkgPath := "", byteOffset := 0 }, { name := "To", type := 3, offset := 1, embedded := false, tag := "", pkgPath := "", byteOffset := 8 }])) (hC : P.cellsOf 30 = 2) :
    ∀ (fuel : Nat) (cs : List Value) (x : DataW H × List MemPlace), DataW.trod enc P w base spare held fuel 30 cs = some x → ∃ v, k30.K w v cs ∧ True := by
  intro fuel cs x h
  obtain ⟨ys, n, _, _, hlen, hyl, hf⟩ := DataW.trod_struct ht h
  rw [hC] at hlen
  match cs, hlen with
  | [c0, c1], _ =>
    have h0 := hf 0 _ rfl
    have h1 := hf 1 _ rfl
    obtain ⟨o0, k0⟩ := hone_of hone 0 _ rfl
    obtain ⟨o1, k1⟩ := hone_of hone 1 _ rfl
    match ys, hyl with
    | [y0, y1], _ =>
      rw [k0] at h0
      rw [k1] at h1
      obtain ⟨n0, e0, _, _⟩ := DataW.trod_int x3 (show DataW.trod enc P w base spare held n 3 [c0] = some y0 from h0)
      obtain ⟨n1, e1, _, _⟩ := DataW.trod_int x3 (show DataW.trod enc P w base spare held n 3 [c1] = some y1 from h1)
      simp only [List.cons.injEq, and_true] at e0 e1
      subst e0 e1
      exact ⟨⟨n0, n1⟩, k30_mk w ⟨n0, n1⟩, trivial⟩
end

end Go.Proofs.Ytcejdokeaoklaaa.PChk
