import Derived.Test.YtcejdokeaoklaaaDoorGraphs
import Derived.Deep.AppendLies
import Derived.Deep.DeepCutAuto
import Derived.Deep.RegionHeld3
import Derived.Deep.DrawnRows
import Derived.Deep.RegionLaw
import Derived.WalkArith
/-! imports.Check: the rows while they are filled; where a folder's first file stands; what is told of a file. -/
set_option linter.unusedVariables false
namespace Go.Proofs.YtcejdokeaoklaaaDoor.PImp
open Go.RowKit Go.Sort Go.Maps Go.Proofs.YtcejdokeaoklaaaDoorW.PrintWords Go.Proofs.YtcejdokeaoklaaaDoorW.PrintLast Go.Proofs.YtcejdokeaoklaaaDoorW.PrintMore
open Go.Proofs.YtcejdokeaoklaaaDoor.Imp
/-- The row of rows, none of whose blocks is the map's (b9). -/
def OutS (w : World) (base b9 : Nat) (v : Value) (rows : List (List S52)) : Prop := Kd.S (Kd.slice 52 k52) 49 w base (fun k => k ≠ b9) v rows
theorem OutS.below {w w1 : World} {base b9 : Nat} {v : Value} {rows : List (List S52)} (h : OutS w base b9 v rows) (hb : Below w.heap.size w w1) : OutS w1 base b9 v rows := Kd.S_below h hb
theorem OutS.put {w w1 : World} {base b9 : Nat} {v : Value} {rows : List (List S52)} (h : OutS w base b9 v rows) (hg : w.grownBy w1 (some b9)) : OutS w1 base b9 v rows := Kd.S_grown h hg (fun k hk e => hk (by injection e))
/-- Element i's row. -/
structure Lent (w : World) (base b9 g n c : Nat) (rows : List (List S52)) (i : Nat) (r : List S52) (u : Value) (oki : Nat → Prop) : Prop where
  cell : w.cell? ⟨g, i, none⟩ = some u
  free : w.frozen? ⟨g, i, none⟩ = false
  row : k52.R 52 w base (fun k => oki k ∨ k ≠ b9 ∧ w.heap.size ≤ k) u r
  away : ∀ k, u.ownBlock = some k → k ≠ b9 ∧ k ≠ g
  gl : g < w.heap.size
  low : base ≤ g
  b9l : b9 < w.heap.size
  ne : g ≠ b9
  back : ∀ (w1 : World) (v1 : Value) (r1 : List S52), k52.R 52 w1 base (fun k => oki k ∨ k ≠ b9 ∧ w.heap.size ≤ k) v1 r1 → w.grownBy w1 u.ownBlock →
    OutS (w1.setCell ⟨g, i, none⟩ v1) base b9 (.slice (some ⟨g, 0, none⟩) n c) (rows.set i r1) ∧ w1.grownBy (w1.setCell ⟨g, i, none⟩ v1) (some g) ∧ w1.cell? ⟨g, i, none⟩ = some u ∧ w1.frozen? ⟨g, i, none⟩ = false
theorem OutS.lend {w : World} {base b9 g n c : Nat} {rows : List (List S52)} (h : OutS w base b9 (.slice (some ⟨g, 0, none⟩) n c) rows) {i : Nat} (hi : i < rows.length) (hb9 : b9 < w.heap.size) : ∃ (u : Value) (oki : Nat → Prop), Lent w base b9 g n c rows i rows[i] u oki := by
  have hn := (Kd.S_reads' h).1
  have hgl := Kd.S_lt h g rfl
  have hgb := Kd.S_base h g rfl
  have hgo : g ≠ b9 := by
    obtain ⟨f, hR⟩ := h
    exact hR.1 g rfl
  obtain ⟨oki, cs, hcl, hM, hcc, hfr, hoki, hH⟩ := Kd.S_elem h [] (i : Int) (by omega) (by omega)
  obtain ⟨u, rfl, hR⟩ := hM
  have he : rows.getD (i : Int).toNat [] = rows[i] := by simp [List.getD, hi]
  rw [he] at hR
  have hau : ∀ k, u.ownBlock = some k → k ≠ b9 ∧ k ≠ g := fun k hk => hoki k (hR.1 k hk)
  have ez : (i : Int).toNat * (Kd.slice 52 k52).sz + 0 = i := by
    show (i : Int).toNat * 1 + 0 = i
    omega
  have hcu := hcc 0 u rfl
  have hfu := hfr 0
  rw [ez] at hcu hfu
  refine ⟨u, oki, hcu, hfu, Kd.R_mono hR (fun k hk => .inl hk), hau, hgl, hgb, hb9, hgo, fun w1 v1 r1 hr1 hg => ?_⟩
  have hH1 := Kd.H_widen hH
  have hH2 := Kd.H_grown hH1 hg (fun k hk => .inl (hR.1 k hk))
  have hS := Kd.S_seg (W := w1) (okg := fun _ => False) (okp := fun k => oki k ∨ k ≠ b9 ∧ w.heap.size ≤ k) (seg := [v1]) (j := 0) (x' := r1) (Kd.H_mono hH2 (fun k hk => ⟨hk, id⟩)) (by omega) (by omega) (by show 0 + 1 ≤ 1; omega) ⟨v1, rfl, hr1⟩ (fun k hk => .inl hk) (fun k hk => hk.elim)
  rw [ez] at hS
  refine ⟨by simpa [OutS, World.setCells] using hS.1, hS.2, ?_, ?_⟩
  · rw [hg.cell_far _ hgl (fun e => (hau g e.symm).2 rfl)]
    exact hcu
  · rw [hg.frozen_far _ hgl (fun e => (hau g e.symm).2 rfl)]
    exact hfu
theorem Lent.fresh {w : World} {base b9 g n c : Nat} {rows : List (List S52)} {i : Nat} {r : List S52} {u : Value} {oki : Nat → Prop} (h : Lent w base b9 g n c rows i r u oki) : ∀ k, w.heap.size ≤ k → (oki k ∨ k ≠ b9 ∧ w.heap.size ≤ k) := fun k hk => .inr ⟨by have := h.b9l; omega, hk⟩
theorem Lent.ne_typed {w : World} {base b9 g n c : Nat} {rows : List (List S52)} {i : Nat} {r : List S52} {u : Value} {oki : Nat → Prop} (h : Lent w base b9 g n c rows i r u oki) {p t : Nat} {cells : Array Value} (hp : w.heap[p]? = some (.cells cells t (0, 0))) (ht : t ≠ 52) : some p ≠ u.ownBlock := by
  intro e
  obtain ⟨cells', hc⟩ := Kd.R_typed h.row p e.symm
  rw [hp] at hc
  simp only [Option.some.injEq, Obj.cells.injEq] at hc
  exact ht hc.2.1
theorem Lent.ne_g {w : World} {base b9 g n c : Nat} {rows : List (List S52)} {i : Nat} {r : List S52} {u : Value} {oki : Nat → Prop} (h : Lent w base b9 g n c rows i r u oki) : some g ≠ u.ownBlock := fun e => (h.away g e.symm).2 rfl
theorem cell_of_heap {w : World} {p t j : Nat} {cells : Array Value} {v : Value} (h : w.heap[p]? = some (.cells cells t (0, 0))) (hv : cells[j]? = some v) : w.cell? ⟨p, j, none⟩ = some v := by
  simp [World.cell?, h, hv]
theorem drew_alloc (w : World) (o : Obj) : (w.alloc o).drew = w.drew.alloc o := rfl
theorem frozen_new {w : World} {a : Addr} (h : a.block < w.drew.heap.size) (o : Obj) : (w.alloc o).drew.frozen? a = w.frozen? a := (World.grownBy_alloc w o none).frozen_far a h (by simp)
theorem cell_new {w : World} {a : Addr} (h : a.block < w.drew.heap.size) (o : Obj) : (w.alloc o).drew.cell? a = w.cell? a := (World.grownBy_alloc w o none).cell_far a h (by simp)
theorem cell_put {g p : Nat} (h : p ≠ g) (w : World) (v : Value) (i : Nat) {j : Nat} : (w.setCell ⟨g, i, none⟩ v).cell? ⟨p, j, none⟩ = w.cell? ⟨p, j, none⟩ := World.cell?_setCell_other _ _ _ _ (fun e => h (by injection e with e1; exact e1.symm))
/-! ### where a folder's first file stands, and one more; 0: none of the first i is in it -/
def hdI (l0 : List ByteArray) (s : ByteArray) : Nat := l0.findIdx fun x => decide (folderF x = s)
def hdF (l0 : List ByteArray) (i : Nat) (s : ByteArray) : Int := if hdI l0 s < i then (hdI l0 s : Int) + 1 else 0
theorem hdF_zero (l0 : List ByteArray) : (fun _ => 0) = hdF l0 0 := by
  funext s
  unfold hdF
  rw [if_neg (by omega)]
theorem hdI_le {l0 : List ByteArray} {i : Nat} (hi : i < l0.length) : hdI l0 (folderF l0[i]) ≤ i := by
  unfold hdI
  refine Nat.le_of_not_lt fun h => ?_
  have := List.not_of_lt_findIdx h
  simp at this
theorem hdI_get {l0 : List ByteArray} {s : ByteArray} (h : hdI l0 s < l0.length) : folderF l0[hdI l0 s] = s := by
  unfold hdI at h ⊢
  have := List.findIdx_getElem (w := h)
  exact of_decide_eq_true this
theorem hdF_other {l0 : List ByteArray} {i : Nat} (hi : i < l0.length) {t : ByteArray} (ht : t ≠ folderF l0[i]) : hdF l0 i t = hdF l0 (i + 1) t := by
  unfold hdF
  have hne : hdI l0 t ≠ i := by
    intro e
    have := hdI_get (l0 := l0) (s := t) (by omega)
    simp only [e] at this
    exact ht this.symm
  by_cases h : hdI l0 t < i
  · rw [if_pos h, if_pos (by omega)]
  · rw [if_neg h, if_neg (by omega)]
theorem hdF_next {l0 : List ByteArray} {i : Nat} (hi : i < l0.length) (h : hdF l0 i (folderF l0[i]) = 0) : (fun t => if t = folderF l0[i] then (i : Int) + 1 else hdF l0 i t) = hdF l0 (i + 1) := by
  funext t
  by_cases ht : t = folderF l0[i]
  · rw [if_pos ht, ht]
    have hle := hdI_le hi
    have : ¬ hdI l0 (folderF l0[i]) < i := by
      intro hlt
      unfold hdF at h
      rw [if_pos hlt] at h
      omega
    unfold hdF
    rw [if_pos (by omega)]
    omega
  · rw [if_neg ht]
    exact hdF_other hi ht
theorem hdF_same {l0 : List ByteArray} {i : Nat} (hi : i < l0.length) (h : hdF l0 i (folderF l0[i]) ≠ 0) : hdF l0 i = hdF l0 (i + 1) := by
  funext t
  by_cases ht : t = folderF l0[i]
  · rw [ht]
    have : hdI l0 (folderF l0[i]) < i := by
      refine Nat.lt_of_not_le fun hle => h ?_
      unfold hdF
      rw [if_neg (by omega)]
    unfold hdF
    rw [if_pos this, if_pos (by omega)]
  · exact hdF_other hi ht
theorem hdF_at {l0 : List ByteArray} {i : Nat} (hi : i < l0.length) : hdF l0 (i + 1) (folderF l0[i]) = (hdI l0 (folderF l0[i]) : Int) + 1 := by
  unfold hdF
  rw [if_pos (by have := hdI_le hi; omega)]
/-! ### what is told of a file -/
/-- Of its package clause. -/
def clauseF (l0 : List ByteArray) (l1 : List S46) (i : Nat) : List S52 := if (rd_T46 l1 (hdI l0 (folderF (rdOf ByteArray.empty l0 (i : Int))) : Int)).f0.f0 = (rd_T46 l1 (i : Int)).f0.f0 then [] else [⟨303, (rd_T46 l1 (i : Int)).f0.f1, (rd_T46 l1 (i : Int)).f0.f2⟩]
/-- Of an import. -/
noncomputable def importF (l0 : List ByteArray) (l1 : List S46) (f : ByteArray) (m : S48) : List S52 :=
  if m.f1 ∉ foldersF l0 then [⟨301, m.f2, m.f3⟩] else @ite _ (m.f1 = f ∨ Imp.Reach (fun a b => edgeF l0 l1 a b = true) m.f1 f) (Classical.propDecidable _) [⟨302, m.f2, m.f3⟩] []
noncomputable def importsF (l0 : List ByteArray) (l1 : List S46) (f : ByteArray) (ms : List S48) : List S52 := ms.flatMap (importF l0 l1 f)
noncomputable def rowF (l0 : List ByteArray) (l1 : List S46) (i : Nat) : List S52 := clauseF l0 l1 i ++ importsF l0 l1 (folderF (rdOf ByteArray.empty l0 (i : Int))) (rd_T46 l1 (i : Int)).f1
/-- The rows' list by a function. -/
def rowsOf (n : Nat) (F : Nat → List S52) : List (List S52) := (List.range n).map F
theorem rowsOf_length (n : Nat) (F : Nat → List S52) : (rowsOf n F).length = n := by simp [rowsOf]
theorem rowsOf_get {n : Nat} {F : Nat → List S52} {i : Nat} (h : i < (rowsOf n F).length) : (rowsOf n F)[i] = F i := by simp [rowsOf]
theorem rowsOf_set {n : Nat} {F : Nat → List S52} {i : Nat} {r : List S52} {G : Nat → List S52} (hG : ∀ j, G j = if j = i then r else F j) : (rowsOf n F).set i r = rowsOf n G := by
  refine List.ext_getElem (by simp [rowsOf]) fun j h1 h2 => ?_
  rw [List.getElem_set, show (rowsOf n G)[j] = G j from rowsOf_get h2, hG]
  by_cases e : i = j
  · rw [if_pos e, if_pos e.symm]
  · rw [if_neg e, if_neg (fun e' => e e'.symm), rowsOf_get]
/-- The first i rows are told; of the next cur. -/
noncomputable def partF (l0 : List ByteArray) (l1 : List S46) (i : Nat) (cur : List S52) (j : Nat) : List S52 := if j < i then rowF l0 l1 j else if j = i then cur else []
theorem partF_at (l0 : List ByteArray) (l1 : List S46) (i : Nat) (cur : List S52) : partF l0 l1 i cur i = cur := by unfold partF; rw [if_neg (by omega), if_pos rfl]
theorem partF_put (l0 : List ByteArray) (l1 : List S46) (i : Nat) (cur r : List S52) (j : Nat) : partF l0 l1 i r j = if j = i then r else partF l0 l1 i cur j := by
  unfold partF
  by_cases e : j = i
  · rw [if_pos e, if_neg (by omega), if_pos e]
  · rw [if_neg e, if_neg e, if_neg e]
theorem partF_next (l0 : List ByteArray) (l1 : List S46) (i : Nat) : partF l0 l1 i (rowF l0 l1 i) = partF l0 l1 (i + 1) [] := by
  funext j
  unfold partF
  by_cases e : j = i
  · rw [if_neg (by omega), if_pos e, if_pos (by omega), e]
  · by_cases h : j < i
    · rw [if_pos h, if_pos (by omega)]
    · rw [if_neg h, if_neg e, if_neg (by omega)]
      split <;> rfl
noncomputable def checkF (l0 : List ByteArray) (l1 : List S46) : List (List S52) := if rightF l0 l1 = 0 then rowsOf l0.length (rowF l0 l1) else []
theorem partF_all (l0 : List ByteArray) (l1 : List S46) (n : Nat) : rowsOf n (partF l0 l1 n []) = rowsOf n (rowF l0 l1) := by
  unfold rowsOf
  refine List.map_congr_left fun j hj => ?_
  unfold partF
  rw [if_pos (List.mem_range.1 hj)]
theorem partF_none (l0 : List ByteArray) (l1 : List S46) (n : Nat) : rowsOf n (partF l0 l1 0 []) = List.replicate n [] := by
  refine List.ext_getElem (by simp [rowsOf]) fun j h1 h2 => ?_
  rw [rowsOf_get, List.getElem_replicate]
  unfold partF
  rw [if_neg (by omega)]
  split <;> rfl
theorem clauseF_len (l0 : List ByteArray) (l1 : List S46) (i : Nat) : (clauseF l0 l1 i).length ≤ 1 := by
  unfold clauseF
  split <;> simp
theorem importF_len (l0 : List ByteArray) (l1 : List S46) (f : ByteArray) (m : S48) : (importF l0 l1 f m).length ≤ 1 := by
  unfold importF
  split
  · simp
  · split <;> simp
theorem importsF_len (l0 : List ByteArray) (l1 : List S46) (f : ByteArray) : ∀ ms, (importsF l0 l1 f ms).length ≤ ms.length
  | [] => by simp [importsF]
  | m :: ms => by
    have := importF_len l0 l1 f m
    have := importsF_len l0 l1 f ms
    unfold importsF at this ⊢
    rw [List.flatMap_cons, List.length_append, List.length_cons]
    omega
theorem importsF_next {l0 : List ByteArray} {l1 : List S46} {f : ByteArray} {ms : List S48} {j : Nat} (h : j < ms.length) : importsF l0 l1 f (ms.take (j + 1)) = importsF l0 l1 f (ms.take j) ++ importF l0 l1 f ms[j] := by
  unfold importsF
  rw [List.take_succ_eq_append_getElem h, List.flatMap_append]
  simp
theorem NumMap.look {w : World} {b n : Nat} {f : ByteArray → Int} (h : NumMap w b n f) {s : ByteArray} (hs : s.size < 1048577) : (Instr.lookup 68 (.map (some b)) (.string s) false).run Tryd.prog w = .ok (.int .i64 (f s)) w := by
  obtain ⟨D, h, hf⟩ := h
  obtain ⟨c, hrun, hat, _⟩ := h.lookup_int law9 Tryd.underlying68 Tryd.underlying3 (zero3 w) (key9 hs)
  have := (hf s).symm.trans hat
  simp only [DataW.lit.injEq, Lit.int.injEq, true_and] at this
  rw [this]
  exact hrun
/-- Where the walk of Check stands: i files are told, of the next cur; the heads are those of the first k. -/
structure CSt (w1 : World) (b9 g c : Nat) (l0 : List ByteArray) (l1 : List S46) (k i : Nat) (cur : List S52) (w : World) : Prop where
  out : OutS w w1.heap.size b9 (.slice (some ⟨g, 0, none⟩) l0.length c) (rowsOf l0.length (partF l0 l1 i cur))
  map : ∃ n, n ≤ k ∧ NumMap w b9 n (hdF l0 k)
  low : w1.heap.size ≤ b9
  bel : Below w1.heap.size w1 w
section
variable {w1 w : World} {b9 g c k i : Nat} {l0 : List ByteArray} {l1 : List S46} {cur : List S52}
theorem CSt.under (h : CSt w1 b9 g c l0 l1 k i cur w) {w' : World} (hb : Below w.heap.size w w') : CSt w1 b9 g c l0 l1 k i cur w' := by
  obtain ⟨h1, ⟨n, hn, h2⟩, h3, h4⟩ := h
  exact ⟨h1.below hb, ⟨n, hn, h2.below hb⟩, h3, h4.trans (hb.mono h4.size)⟩
theorem CSt.head (h : CSt w1 b9 g c l0 l1 i i cur w) {w' : World} (hg : w.grownBy w' (some b9)) {n : Nat} (hn : n ≤ i + 1) (hm : NumMap w' b9 n (hdF l0 (i + 1))) : CSt w1 b9 g c l0 l1 (i + 1) i cur w' := by
  obtain ⟨h1, _, h3, h4⟩ := h
  exact ⟨h1.put hg, ⟨n, hn, hm⟩, h3, h4.grown hg h4.size (fun k e => by injection e with e; omega)⟩
theorem CSt.lend (h : CSt w1 b9 g c l0 l1 k i cur w) (hi : i < l0.length) : ∃ u oki, Lent w w1.heap.size b9 g l0.length c (rowsOf l0.length (partF l0 l1 i cur)) i cur u oki := by
  obtain ⟨n, _, hm⟩ := h.map
  obtain ⟨u, oki, hl⟩ := h.out.lend (i := i) (by rw [rowsOf_length]; exact hi) hm.lt
  rw [rowsOf_get, partF_at] at hl
  exact ⟨u, oki, hl⟩
/-- out[i] = append(out[i], ..). -/
theorem CSt.add (h : CSt w1 b9 g c l0 l1 k i cur w) {u : Value} {oki : Nat → Prop} (hl : Lent w w1.heap.size b9 g l0.length c (rowsOf l0.length (partF l0 l1 i cur)) i cur u oki) {w' : World} {v' : Value} {r : List S52}
    (hr : k52.R 52 w' w1.heap.size (fun k => oki k ∨ k ≠ b9 ∧ w.heap.size ≤ k) v' r) (hb : Below w1.heap.size w1 w') (hg : w.grownBy w' u.ownBlock) : CSt w1 b9 g c l0 l1 k i r (w'.setCell ⟨g, i, none⟩ v') := by
  obtain ⟨h1, ⟨n, hn, h2⟩, h3, h4⟩ := h
  obtain ⟨hs, hgs, _, _⟩ := hl.back w' v' r hr hg
  rw [rowsOf_set (partF_put l0 l1 i cur r)] at hs
  refine ⟨hs, ⟨n, hn, (h2.kept hg (fun e => (hl.away b9 e.symm).1 rfl)).kept hgs (fun e => hl.ne (by injection e with e; exact e.symm))⟩, h3, hb.grown hgs hb.size (fun k e => by injection e with e; have := hl.low; omega)⟩
end
theorem CSt.ne_g {w1 w : World} {b9 g c k i : Nat} {l0 : List ByteArray} {l1 : List S46} {cur : List S52} (h : CSt w1 b9 g c l0 l1 k i cur w) {p t : Nat} {cells : Array Value} (hp : w.heap[p]? = some (.cells cells t (0, 0))) (ht : t ≠ 49) : p ≠ g := by
  intro e
  obtain ⟨cells', hc⟩ := Kd.S_typed h.out g rfl
  rw [← e, hp] at hc
  simp only [Option.some.injEq, Obj.cells.injEq] at hc
  exact ht hc.2.1
theorem made_rows {w : World} {base n : Nat} {v : Value} (l0 : List ByteArray) (l1 : List S46) (h : Kd.S (Kd.slice 52 k52) 49 w base (fun _ => True) v (List.replicate (n : Int).toNat [])) (ha : ∃ b, v.ownBlock = some b ∧ base ≤ b) :
    ∃ g c, v = .slice (some ⟨g, 0, none⟩) n c ∧ Kd.S (Kd.slice 52 k52) 49 w base (fun _ => True) v (rowsOf n (partF l0 l1 0 [])) := by
  rw [Int.toNat_natCast, ← partF_none l0 l1] at h
  obtain ⟨A, c, rfl⟩ := Kd.S_slice h
  obtain ⟨b, hb, _⟩ := ha
  cases A with
  | none => simp [Value.ownBlock] at hb
  | some ad =>
    obtain ⟨g, rfl⟩ := Kd.R_head (Kd.S_R h)
    exact ⟨g, c, by rw [rowsOf_length], h⟩
theorem CSt.start {w1 w2 : World} {g c : Nat} {l0 : List ByteArray} {l1 : List S46} (h : Kd.S (Kd.slice 52 k52) 49 w2 w1.heap.size (fun _ => True) (.slice (some ⟨g, 0, none⟩) l0.length c) (rowsOf l0.length (partF l0 l1 0 []))) (hb : Below w1.heap.size w1 w2) :
    CSt w1 w2.heap.size g c l0 l1 0 0 [] (w2.alloc (.map #[] 0)) := by
  refine ⟨Kd.S_mono (Kd.S_alloc (Kd.S_elderB h _ (Nat.le_refl _)) _) (fun k hk => hk.2), ⟨0, Nat.le_refl _, ?_⟩, hb.size, hb.alloc hb.size _⟩
  rw [← hdF_zero]
  exact NumMap.made w2
end Go.Proofs.YtcejdokeaoklaaaDoor.PImp

/-! imports.Check: the walk. -/
set_option linter.unusedVariables false
namespace Go.Proofs.YtcejdokeaoklaaaDoor.PImp
open Go.RowKit Go.Sort Go.Maps Go.Proofs.YtcejdokeaoklaaaDoorW.PrintWords Go.Proofs.YtcejdokeaoklaaaDoorW.PrintLast Go.Proofs.YtcejdokeaoklaaaDoorW.PrintMore
open Go.Proofs.YtcejdokeaoklaaaDoor.Imp
attribute [local go_sem ↓] Go.wp_at_zero Go.wp_at_succ
theorem right_len {l0 : List ByteArray} {l1 : List S46} (h : rightF l0 l1 = 0) : l0.length = l1.length := by
  unfold rightF at h
  split at h
  · cases h
  · rename_i h'
    exact Classical.not_not.1 h'
theorem right_all {l0 : List ByteArray} {l1 : List S46} (h : rightF l0 l1 = 0) : ∀ s ∈ l0, okN s = true := by
  unfold rightF at h
  split at h
  · cases h
  · split at h
    · cases h
    · rename_i _ h'
      exact List.all_eq_true.1 (by simpa using h')
section
variable (A0 : Option Addr) (c0 : Nat) (l0 : List ByteArray) (A1 : Option Addr) (c1 : Nat) (l1 : List S46) (w0 : World) (hr0 : Kd.C Kd.string w0 A0 l0.length l0) (hr1 : Kd.C k46 w0 A1 l1.length l1) (hS : Small l0 l1)
include hr0 hr1 hS
set_option maxHeartbeats 8000000 in
set_option maxRecDepth 100000 in
theorem Check_no (h : rightF l0 l1 ≠ 0) : Calls Tryd.prog 20 #[.slice A0 l0.length c0, .slice A1 l1.length c1] w0 fun e w' => e = .returned (.tuple #[.slice none 0 0, .int .i64 (rightF l0 l1)]) ∧ Below w0.heap.size w0 w' := by
  have hm := made_no A0 c0 l0 A1 c1 l1 w0 hr0 hr1 hS h
  have hb0 : (rightF l0 l1 != 0) = true := bne_iff_ne.2 h
  clear hr0 hr1 hS h
  go_enter Tryd.func20, Tryd.ntmps20
  go_wp2_with (go_at_call 30; refine hm.mono ?_; rintro e w1 ⟨v, rfl, hb⟩; have HB := Aside0.mk hb; clear hb)
  go_ret2
  exact ⟨rfl, HB.out⟩
set_option maxHeartbeats 60000000 in
set_option maxRecDepth 100000 in
theorem Check_yes (h : rightF l0 l1 = 0) : Calls Tryd.prog 20 #[.slice A0 l0.length c0, .slice A1 l1.length c1] w0 fun e w' => ∃ v, e = .returned (.tuple #[v, .int .i64 0]) ∧ Kd.S (Kd.slice 52 k52) 49 w' w0.heap.size (fun _ => True) v (checkF l0 l1) ∧ Below w0.heap.size w0 w' := by
  have hm := made_yes A0 c0 l0 A1 c1 l1 w0 hr0 hr1 hS h
  have hz := foldersF_small hS.2.1
  have hn := foldersF_length l0
  have hn2 := hS.1
  have HLL := Aside0.mk (right_len h)
  have HO := Aside0.mk (right_all h)
  have HSZ := Aside0.mk hS.2.1
  have HP := Aside0.mk hS.2.2.1
  have HT := Aside0.mk hS.2.2.2
  have HCF := Aside0.mk (show checkF l0 l1 = rowsOf l0.length (rowF l0 l1) by unfold checkF; rw [if_pos h])
  have HR0 := Aside0.mk hr0
  have HR1 := Aside0.mk hr1
  have hmm := @run_makeMap Tryd.prog
  clear hr0 hr1 hS h
  go_enter Tryd.func20, Tryd.ntmps20
  go_wp2_with (first
    | (go_at_call 30; refine hm.mono ?_; rintro e w1 ⟨B, rfl, hG, hb⟩; have HG := Aside0.mk hG; have HB := Aside0.mk hb; clear hG hb)
    | (refine Kd.S_make (Kd.slice 52 k52) (w0 := w1) w1.heap.size 49 rfl rfl 37 _ _ rfl (l0.length : Int) rfl rfl Tryd.underlying37 (.slice none 0 0) 24 info49 rfl (by decide) (by decide) [] (ok := fun _ => True) (okp := fun _ => False) ⟨_, rfl, Kd.R_nil _ _ _ _ _⟩ (fun _ h => h.elim) trivial (by omega) (by simp only [Int.toNat_natCast]; omega) (Below.refl _ _) (Nat.le_refl _) ?_; intro v8 w2 hs2 hb2 hg2 hat2; obtain ⟨g, c8, hv8, hs3⟩ := made_rows l0 l1 hs2 hat2; subst hv8; have HS2 := Aside0.mk hs3; have HB2 := Aside0.mk hb2; clear hs2 hs3 hb2 hg2 hat2))
  have hst0 := CSt.start HS2.out HB2.out
  clear hm HS2
  go_loopg [35] l0.length (fun kq v35 w' => ∃ i : Nat, v35 = .int .i64 (i : Int) ∧ i + kq = l0.length ∧ CSt w1 w2.heap.size g c8 l0 l1 i i [] w')
  case atStart => exact ⟨0, rfl, by omega, hst0⟩
  case round =>
    clear hst0
    obtain ⟨i, rfl, hk, hst⟩ := hrel
    obtain ⟨m0, rfl⟩ : ∃ m0, m0 = gk := ⟨_, rfl⟩
    by_cases hi : i < l0.length
    · have hb1 : decide ((i : Int) < (l0.length : Int)) = true := decide_eq_true (by omega)
      have hi4 : i < l1.length := by have := HLL.out; omega
      have hbel0 := HB.out.trans (hst.bel.mono HB.out.size)
      obtain ⟨ad, e1, hx⟩ := Kd.at_string (Kd.C_below HR0.out hbel0) (i : Int) (by omega) (by omega)
      cases e1
      rw [rdOf_get hi] at hx
      simp only [Int.toNat_natCast] at hx
      have hsz := HSZ.out l0[i] (List.getElem_mem hi)
      have ho := HO.out l0[i] (List.getElem_mem hi)
      have hfz : (folderF l0[i]).size < 1048577 := by have := folderF_size l0[i]; omega
      have HD1 := Aside0.mk (fun h => hdF_next hi h)
      have HD2 := Aside0.mk (fun h => hdF_same hi h)
      have HD3 := Aside0.mk (hdF_at hi)
      have HD4 := Aside0.mk (hdI_le hi)
      have HFI := Aside0.mk (show rdOf ByteArray.empty l0 (i : Int) = l0[i] from rdOf_get hi)
      generalize l0[i] = nm at hx hsz ho hfz HD1 HD2 HD3 HD4 HFI
      have p0 : 0 ≤ (i : Int) := by omega
      have q0 : (i : Int) < (l0.length : Int) := by omega
      have q1 : (i : Int) < (l1.length : Int) := by omega
      go_upto_if 49 with (first | (go_at_call 8; refine (split_yes _ _ hsz ho).mono ?_; rintro e w3 ⟨rfl, hb⟩; have hst3 := hst.under hb; obtain ⟨nh, hnh, hmap⟩ := hst3.map; clear hb) | (at_lookup; refine wp_num_look rfl _ _ rfl rfl hmap (folderF nm) rfl hfz ?_))
      go_cut [] (fun wx => CSt w1 w2.heap.size g c8 l0 l1 (i + 1) i [] wx)
      case first =>
        by_cases hz0 : hdF l0 i (folderF nm) = 0
        · have hq : (hdF l0 i (folderF nm) == 0) = true := by simp [hz0]
          go_wp2_with (at_mapUpdate; refine wp_num_put rfl _ _ _ rfl rfl hmap (by omega) (folderF nm) rfl hfz ((i : Int) + 1) rfl (Go.WalkArith.wf_i64 (by omega)) ?_; intro w5 hm5 hg5; have HM5 := Aside0.mk hm5; have HG5 := Aside0.mk hg5; clear hm5 hg5)
          go_meet
          case rel =>
            have hm6 := HM5.out
            rw [HD1.out hz0] at hm6
            exact hst3.head HG5.out (by omega) hm6
        · have hq : (hdF l0 i (folderF nm) == 0) = false := by simpa using hz0
          go_wp2
          go_meet
          case rel =>
            refine ⟨hst3.out, ⟨nh, by omega, ?_⟩, hst3.low, hst3.bel⟩
            rw [← HD2.out hz0]
            exact hmap
      case rest =>
        have hst4 : CSt w1 w2.heap.size g c8 l0 l1 (i + 1) i [] wc := hcut
        clear hcut hst hst3 hmap hx
        have hbel := HB.out.trans (hst4.bel.mono HB.out.size)
        obtain ⟨hd, hhd⟩ : ∃ hd, hd = hdI l0 (folderF nm) := ⟨_, rfl⟩
        have hdi : hd ≤ i := by rw [hhd]; exact HD4.out
        have hdl : hd < l1.length := by omega
        have hd3 : hdF l0 (i + 1) (folderF nm) = (hd : Int) + 1 := by rw [hhd]; exact HD3.out
        have HHD := Aside0.mk hhd
        obtain ⟨ad1, A3, c3, A4, c4, e1, hy0, hy1, hy2, hy3, hy4, hl3, hC3, hl4, hC4⟩ := at_T46 HR1.out (i : Int) (by omega) (by omega)
        cases e1
        obtain ⟨ad2, A5, c5, A6, c6, e2, hv0, hv1, hv2, hv3, hv4, hl5, hC5, hl6, hC6⟩ := at_T46 HR1.out (hd : Int) (by omega) (by omega)
        injection e2 with e2
        subst e2
        replace hy0 := pw_cell_below hbel hy0
        replace hy1 := pw_cell_below hbel hy1
        replace hy2 := pw_cell_below hbel hy2
        have HY3 := Aside0.mk hy3
        replace hy3 := pw_cell_below hbel hy3
        replace hv0 := pw_cell_below hbel hv0
        simp only [Int.toNat_natCast] at hy0 hy1 hy2 hy3 hv0
        clear hy4 hl4 hC4 hv1 hv2 hv3 hv4 hl5 hC5 hl6 hC6 hhd
        have HCl := Aside0.mk (show clauseF l0 l1 i = if (rd_T46 l1 (hd : Int)).f0.f0 = (rd_T46 l1 (i : Int)).f0.f0 then [] else [⟨303, (rd_T46 l1 (i : Int)).f0.f1, (rd_T46 l1 (i : Int)).f0.f2⟩] by unfold clauseF; rw [HFI.out, ← HHD.out])
        have HRow := Aside0.mk (show rowF l0 l1 i = clauseF l0 l1 i ++ importsF l0 l1 (folderF nm) (rd_T46 l1 (i : Int)).f1 by unfold rowF; rw [HFI.out])
        have HLe := Aside0.mk (show (rd_T46 l1 (i : Int)).f1.length < 1048577 by
          have hzl : i < (l0.zip l1).length := by rw [List.length_zip]; omega
          have := allPairs_le hzl
          have h2 : (pairsOf (l0.zip l1)[i]).length = (l1[i]).f1.length := by rw [List.getElem_zip]; exact List.length_map ..
          have := HT.out
          rw [rd46 hi4]
          omega)
        have HPm := Aside0.mk (show ∀ m ∈ (rd_T46 l1 (i : Int)).f1, m.f1.size < 1048577 by rw [rd46 hi4]; exact HP.out l1[i] (List.getElem_mem hi4))
        have HC3 := Aside0.mk hC3
        have HL3 := Aside0.mk hl3
        clear hC3 hl3
        generalize (rd_T46 l1 (i : Int)).f1 = ms at HRow HLe HPm HC3 HL3 hy3 HY3
        generalize (rd_T46 l1 (i : Int)).f0.f0 = pn at hy0 HCl
        generalize (rd_T46 l1 (i : Int)).f0.f1 = pa at hy1 HCl
        generalize (rd_T46 l1 (i : Int)).f0.f2 = pb at hy2 HCl
        generalize (rd_T46 l1 (hd : Int)).f0.f0 = s1 at hv0 HCl
        obtain ⟨wo, rfl⟩ : ∃ wo : World, wo = wc := ⟨_, rfl⟩
        have hbs : Below wo.heap.size wo (wo.alloc (.cells #[.string pn, .int .i64 pa, .int .i64 pb] 42)) := below_alloc (Below.refl _ _) _
        have hst5 := hst4.under hbs
        obtain ⟨nh5, _, hm5⟩ := hst5.map
        have hlook := (hm5.below (below_drew (Below.refl _ _))).look hfz
        have hnew0 : (wo.alloc (.cells #[.string pn, .int .i64 pa, .int .i64 pb] 42)).heap[wo.heap.size]? = some (.cells #[.string pn, .int .i64 pa, .int .i64 pb] 42 (0, 0)) := heap_alloc_new wo _
        rw [hd3] at hlook
        have hv1 := pw_cell_below hbs hv0
        have HN0 := Aside0.mk hnew0
        have HBS := Aside0.mk hbs
        have HST5 := Aside0.mk hst5
        clear hst5 hm5 hst4 hnew0 hbs
        have z0 : (0 : Int) ≤ (hd : Int) := by omega
        have z1 : (hd : Int) < (l1.length : Int) := by omega
        have Z2 := Aside0.mk (wrap_id (x := (hd : Int)) (by omega) (by omega))
        have Z3 := Aside0.mk (show IntKind.i64.wrap ((hd : Int) + 1 - 1) = (hd : Int) by rw [Int.add_sub_cancel, i64_w]; exact wrap_id (by omega) (by omega))
        go_upto_region 13 with fail
        obtain ⟨c, hc⟩ : ∃ c : Bool, c = (s1.toList != pn.toList) := ⟨_, rfl⟩
        have HC := Aside0.mk hc
        clear hc
        go_cut [70] (fun v70 wx => v70 = .bool c ∧ CSt w1 w2.heap.size g c8 l0 l1 (i + 1) i [] wx ∧ wx.heap[wo.heap.size]? = some (.cells #[.string pn, .int .i64 pa, .int .i64 pb] 42 (0, 0)))
        case first =>
          have z2 := Z2.out
          have z4 : IntKind.i64.wrap (hd : Int) = (hd : Int) := by rw [i64_w]; exact Z2.out
          have z3 := Z3.out
          go_region_held3 (fun w' => w'.cell? (ad1.add (hd * 5)) = some (.string s1) ∧ w'.cell? ⟨wo.heap.size, 0, none⟩ = some (.string pn) ∧ (Instr.lookup 68 (.map (some w2.heap.size)) (.string (folderF nm)) false).run Tryd.prog w' = .ok (.int .i64 ((hd : Int) + 1)) w')
            (first | go_keep | (go_split_ands; refine ⟨by go_keep, by go_keep, ?_⟩; first | exact hlook | assumption))
            (fail)
          clear z2 z3 z4
          (try go_wp2)
          go_meet
          case rel =>
            exact ⟨by rw [HC.out]; rfl, HST5.out.under (below_drew (Below.refl _ _)), HN0.out⟩
        case rest =>
          obtain ⟨rfl, hst6, hnew⟩ := hcut
          clear hlook hv1 hv0 hy0 hy1 hy2
          go_upto_if 70 with fail
          go_cut [] (fun wx => CSt w1 w2.heap.size g c8 l0 l1 (i + 1) i (clauseF l0 l1 i) wx)
          case first =>
            by_cases hsp : s1 = pn
            · obtain rfl : c = false := by rw [HC.out, hsp]; simp
              have h3 : clauseF l0 l1 i = [] := by rw [HCl.out, if_pos hsp]
              go_wp2
              go_meet
              case rel =>
                rw [h3]
                exact hst6
            · obtain rfl : c = true := by rw [HC.out]; simpa using fun e => hsp (toList_inj.1 e)
              have H3 := Aside0.mk (show clauseF l0 l1 i = [] ++ [⟨303, pa, pb⟩] by rw [HCl.out, if_neg hsp]; rfl)
              clear hsp
              have hst7 := hst6.under (below_drew (Below.refl _ _))
              obtain ⟨u, oki, hl⟩ := hst7.lend hi
              have huc : wc.cell? ⟨g, i, none⟩ = some u := hl.cell
              have huf : wc.frozen? ⟨g, i, none⟩ = false := hl.free
              have hc1 : wc.cell? ⟨wo.heap.size, 1, none⟩ = some (.int .i64 pa) := cell_of_heap hnew (by rfl)
              have hc2 : wc.cell? ⟨wo.heap.size, 2, none⟩ = some (.int .i64 pb) := cell_of_heap hnew (by rfl)
              have HF5 := Aside0.mk (hl.fresh)
              have HN1 := Aside0.mk (hl.ne_typed (t := 42) hnew (by decide))
              have HLD := Aside0.mk hl
              have HPL := Aside0.mk (show wo.heap.size < wc.drew.heap.size from (Array.getElem?_eq_some_iff.1 hnew).1)
              have HS7 := Aside0.mk hst7
              have HNG := Aside0.mk (HS7.out.ne_g (t := 42) hnew (by decide))
              have hca : ∀ o, (wc.alloc o).drew.cell? ⟨g, i, none⟩ = some u := fun o => (cell_new (w := wc) (a := ⟨g, i, none⟩) HLD.out.gl o).trans huc
              have hfa : ∀ o, (wc.alloc o).drew.frozen? ⟨g, i, none⟩ = false := fun o => (frozen_new (w := wc) (a := ⟨g, i, none⟩) HLD.out.gl o).trans huf
              clear hl hst7 hst6
              go_upto_region 14 with fail
              go_region_law
                ((rw [drew_alloc]; refine Kd.R_append_step k52 (w0 := w1) w1.heap.size (by rfl) (.tmp 76) (.tmp 82) 49 52 (.agg #[.int .i64 0, .int .i64 0, .int .i64 0]) 24 (by rfl) Tryd.underlying49 info52 rfl (by decide) (by omega) u [] ⟨303, pa, pb⟩ [.int .i64 303, .int .i64 pa, .int .i64 pb] (fun k => oki k ∨ k ≠ w2.heap.size ∧ wc.heap.size ≤ k) (fun _ => False) (by rfl) (by rfl) (k52_mkM _ _ _ ⟨303, pa, pb⟩) (fun _ hk => hk.elim) HF5.out HLD.out.row HS7.out.bel HS7.out.bel.size (by decide) ?_; intro v5 w5 hr5 hb5 hg5 hat5; obtain ⟨Av, cv, rfl⟩ := Kd.R_slice hr5; have hcz5 := (hg5.cell_far ⟨g, i, none⟩ HLD.out.gl HLD.out.ne_g).trans huc; have hfz5 := (hg5.frozen_far ⟨g, i, none⟩ HLD.out.gl HLD.out.ne_g).trans huf))
              all_goals (try go_wp2)
              all_goals go_meet
              all_goals (rw [H3.out]; exact HS7.out.add HLD.out hr5 hb5 hg5)
          case rest =>
            have hst8 : CSt w1 w2.heap.size g c8 l0 l1 (i + 1) i (clauseF l0 l1 i) wc := hcut
            clear hcut hst6 hnew hy3
            have hbel8 := HB.out.trans (hst8.bel.mono HB.out.size)
            have hy3 := pw_cell_below hbel8 HY3.out
            simp only [Int.toNat_natCast] at hy3
            have hst9 : CSt w1 w2.heap.size g c8 l0 l1 (i + 1) i (clauseF l0 l1 i ++ importsF l0 l1 (folderF nm) (ms.take 0)) wc := by
              rw [List.take_zero, show importsF l0 l1 (folderF nm) [] = [] from rfl, List.append_nil]
              exact hst8
            go_wp2
            go_loopg [91] ms.length (fun kq v91 w' => ∃ j : Nat, v91 = .int .i64 (j : Int) ∧ j + kq = ms.length ∧ CSt w1 w2.heap.size g c8 l0 l1 (i + 1) i (clauseF l0 l1 i ++ importsF l0 l1 (folderF nm) (ms.take j)) w')
            case atStart => exact ⟨0, rfl, by omega, hst9⟩
            case round =>
              clear hst9 hst8 hy3
              obtain ⟨j, rfl, hkj, hstj⟩ := hrel
              obtain ⟨m1, rfl⟩ : ∃ m1, m1 = gk := ⟨_, rfl⟩
              by_cases hj : j < ms.length
              · have hb4 : decide ((j : Int) < (ms.length : Int)) = true := decide_eq_true (by omega)
                have hbelr := HB.out.trans (hstj.bel.mono HB.out.size)
                obtain ⟨ad3, e3, hz0, hz1, hz2, hz3⟩ := at_T48 (Kd.C_below HC3.out hbelr) (j : Int) (by omega) (by omega)
                cases e3
                rw [rd48 hj] at hz0 hz1 hz2 hz3
                simp only [Int.toNat_natCast] at hz0 hz1 hz2 hz3
                have hpz := HPm.out ms[j] (List.getElem_mem hj)
                have HNx := Aside0.mk (importsF_next (l0 := l0) (l1 := l1) (f := folderF nm) hj)
                have hcl := clauseF_len l0 l1 i
                have hil := importsF_len l0 l1 (folderF nm) (ms.take j)
                rw [List.length_take] at hil
                obtain ⟨cur, hcur⟩ : ∃ cur, cur = clauseF l0 l1 i ++ importsF l0 l1 (folderF nm) (ms.take j) := ⟨_, rfl⟩
                have HCL := Aside0.mk (show cur.length < 1048579 by have := HLe.out; rw [hcur, List.length_append]; omega)
                rw [← hcur] at hstj
                have HCU := Aside0.mk hcur
                clear hcl hil hcur
                generalize ms[j] = mm at hz0 hz1 hz2 hz3 hpz HNx
                have p4 : 0 ≤ (j : Int) := by omega
                have q4 : (j : Int) < (ms.length : Int) := by omega
                have hjb : j < 1048577 := by have := HLe.out; omega
                have hGr := HG.out.below hstj.bel
                obtain ⟨nG, D, hD, hh, _⟩ := id hGr
                have HGr := Aside0.mk hGr
                clear hGr
                have HSJ := Aside0.mk hstj
                clear hstj
                cases hin : decide (mm.f1 ∈ foldersF l0)
                · have hh1 := (hh mm.f1).trans hin
                  have HI := Aside0.mk (show importF l0 l1 (folderF nm) mm = [⟨301, mm.f2, mm.f3⟩] by unfold importF; rw [if_pos (of_decide_eq_false hin)])
                  clear hh
                  go_upto_if 102 with (at_lookup; refine wp_map_is rfl _ _ rfl rfl (hD.alloc _) mm.f1 rfl hpz hh1 ?_; intro q)
                  generalize hW : wr.alloc (.cells #[.string mm.f0, .string mm.f1, .int .i64 mm.f2, .int .i64 mm.f3] 48) = W
                  have hb7 : Below wr.heap.size wr W := by rw [← hW]; exact below_alloc (Below.refl _ _) _
                  have hst10 := HSJ.out.under hb7
                  have hnew10 : W.heap[wr.heap.size]? = some (.cells #[.string mm.f0, .string mm.f1, .int .i64 mm.f2, .int .i64 mm.f3] 48 (0, 0)) := by rw [← hW]; exact heap_alloc_new wr _
                  have HB7 := Aside0.mk hb7
                  clear hW hb7 hz0 hz1 hz2 hz3 hD
                  have hst7 := hst10.under (below_drew (Below.refl _ _))
                  obtain ⟨u, oki, hl⟩ := hst7.lend hi
                  have huc : W.cell? ⟨g, i, none⟩ = some u := hl.cell
                  have huf : W.frozen? ⟨g, i, none⟩ = false := hl.free
                  have hc1 : W.cell? ⟨wr.heap.size, 2, none⟩ = some (.int .i64 mm.f2) := cell_of_heap hnew10 (by rfl)
                  have hc2 : W.cell? ⟨wr.heap.size, 3, none⟩ = some (.int .i64 mm.f3) := cell_of_heap hnew10 (by rfl)
                  have HF5 := Aside0.mk (hl.fresh)
                  have HN1 := Aside0.mk (hl.ne_typed (t := 48) hnew10 (by decide))
                  have HLD := Aside0.mk hl
                  have HPL := Aside0.mk (show wr.heap.size < W.drew.heap.size from (Array.getElem?_eq_some_iff.1 hnew10).1)
                  have HS7 := Aside0.mk hst7
                  have HNG := Aside0.mk (HS7.out.ne_g (t := 48) hnew10 (by decide))
                  have hca : ∀ o, (W.alloc o).drew.cell? ⟨g, i, none⟩ = some u := fun o => (cell_new (w := W) (a := ⟨g, i, none⟩) HLD.out.gl o).trans huc
                  have hfa : ∀ o, (W.alloc o).drew.frozen? ⟨g, i, none⟩ = false := fun o => (frozen_new (w := W) (a := ⟨g, i, none⟩) HLD.out.gl o).trans huf
                  clear hl hst7 hst10
                  go_upto_region 20 with fail
                  go_region_law
                    ((rw [drew_alloc]; refine Kd.R_append_step k52 (w0 := w1) w1.heap.size (by rfl) (.tmp 110) (.tmp 116) 49 52 (.agg #[.int .i64 0, .int .i64 0, .int .i64 0]) 24 (by rfl) Tryd.underlying49 info52 rfl (by decide) (by omega) u cur ⟨301, mm.f2, mm.f3⟩ [.int .i64 301, .int .i64 mm.f2, .int .i64 mm.f3] (fun k => oki k ∨ k ≠ w2.heap.size ∧ W.heap.size ≤ k) (fun _ => False) (by rfl) (by rfl) (k52_mkM _ _ _ ⟨301, mm.f2, mm.f3⟩) (fun _ hk => hk.elim) HF5.out HLD.out.row HS7.out.bel HS7.out.bel.size (by have := HCL.out; omega) ?_; intro v5 w5 hr5 hb5 hg5 hat5; obtain ⟨Av, cv, rfl⟩ := Kd.R_slice hr5; have hcz5 := (hg5.cell_far ⟨g, i, none⟩ HLD.out.gl HLD.out.ne_g).trans huc; have hfz5 := (hg5.frozen_far ⟨g, i, none⟩ HLD.out.gl HLD.out.ne_g).trans huf))
                  all_goals (try go_wp2)
                  all_goals (go_roundg (m1 - 1))
                  all_goals (first | omega | (refine ⟨j + 1, by go_num, by omega, ?_⟩; rw [HNx.out, HI.out, ← List.append_assoc, ← HCU.out]; have h6 := hr5; rw [List.length_append, List.length_singleton] at h6; exact HS7.out.add HLD.out h6 hb5 hg5))
                · have hh1 := (hh mm.f1).trans hin
                  have hmem : mm.f1 ∈ foldersF l0 := of_decide_eq_true hin
                  clear hh
                  go_upto_if 102 with (at_lookup; refine wp_map_is rfl _ _ rfl rfl (hD.alloc _) mm.f1 rfl hpz hh1 ?_; intro q)
                  generalize hW : wr.alloc (.cells #[.string mm.f0, .string mm.f1, .int .i64 mm.f2, .int .i64 mm.f3] 48) = W
                  have hb7 : Below wr.heap.size wr W := by rw [← hW]; exact below_alloc (Below.refl _ _) _
                  have hst10 := HSJ.out.under hb7
                  have hnew10 : W.heap[wr.heap.size]? = some (.cells #[.string mm.f0, .string mm.f1, .int .i64 mm.f2, .int .i64 mm.f3] 48 (0, 0)) := by rw [← hW]; exact heap_alloc_new wr _
                  have HB7 := Aside0.mk hb7
                  clear hW hb7 hz0 hz1 hz2 hz3 hD
                  have hp1 : W.cell? ⟨wr.heap.size, 1, none⟩ = some (.string mm.f1) := cell_of_heap hnew10 (by rfl)
                  by_cases he : mm.f1 = folderF nm
                  · have HI := Aside0.mk (show importF l0 l1 (folderF nm) mm = [⟨302, mm.f2, mm.f3⟩] by unfold importF; rw [if_neg (fun h => h hmem), if_pos (.inl he)])
                    have h1 : (mm.f1.toList == (folderF nm).toList) = true := by rw [he]; simp
                    clear hmem he
                    go_upto_if 119 with fail
                    have hst7 := hst10.under (below_drew (Below.refl _ _))
                    obtain ⟨u, oki, hl⟩ := hst7.lend hi
                    have huc : W.cell? ⟨g, i, none⟩ = some u := hl.cell
                    have huf : W.frozen? ⟨g, i, none⟩ = false := hl.free
                    have hc1 : W.cell? ⟨wr.heap.size, 2, none⟩ = some (.int .i64 mm.f2) := cell_of_heap hnew10 (by rfl)
                    have hc2 : W.cell? ⟨wr.heap.size, 3, none⟩ = some (.int .i64 mm.f3) := cell_of_heap hnew10 (by rfl)
                    have HF5 := Aside0.mk (hl.fresh)
                    have HN1 := Aside0.mk (hl.ne_typed (t := 48) hnew10 (by decide))
                    have HLD := Aside0.mk hl
                    have HPL := Aside0.mk (show wr.heap.size < W.drew.heap.size from (Array.getElem?_eq_some_iff.1 hnew10).1)
                    have HS7 := Aside0.mk hst7
                    have HNG := Aside0.mk (HS7.out.ne_g (t := 48) hnew10 (by decide))
                    have hca : ∀ o, (W.alloc o).drew.cell? ⟨g, i, none⟩ = some u := fun o => (cell_new (w := W) (a := ⟨g, i, none⟩) HLD.out.gl o).trans huc
                    have hfa : ∀ o, (W.alloc o).drew.frozen? ⟨g, i, none⟩ = false := fun o => (frozen_new (w := W) (a := ⟨g, i, none⟩) HLD.out.gl o).trans huf
                    clear hl hst7 hst10
                    go_upto_region 22 with fail
                    go_region_law
                      ((rw [drew_alloc]; refine Kd.R_append_step k52 (w0 := w1) w1.heap.size (by rfl) (.tmp 138) (.tmp 144) 49 52 (.agg #[.int .i64 0, .int .i64 0, .int .i64 0]) 24 (by rfl) Tryd.underlying49 info52 rfl (by decide) (by omega) u cur ⟨302, mm.f2, mm.f3⟩ [.int .i64 302, .int .i64 mm.f2, .int .i64 mm.f3] (fun k => oki k ∨ k ≠ w2.heap.size ∧ W.heap.size ≤ k) (fun _ => False) (by rfl) (by rfl) (k52_mkM _ _ _ ⟨302, mm.f2, mm.f3⟩) (fun _ hk => hk.elim) HF5.out HLD.out.row HS7.out.bel HS7.out.bel.size (by have := HCL.out; omega) ?_; intro v5 w5 hr5 hb5 hg5 hat5; obtain ⟨Av, cv, rfl⟩ := Kd.R_slice hr5; have hcz5 := (hg5.cell_far ⟨g, i, none⟩ HLD.out.gl HLD.out.ne_g).trans huc; have hfz5 := (hg5.frozen_far ⟨g, i, none⟩ HLD.out.gl HLD.out.ne_g).trans huf))
                    all_goals (try go_wp2)
                    all_goals (go_roundg (m1 - 1))
                    all_goals (first | omega | (refine ⟨j + 1, by go_num, by omega, ?_⟩; rw [HNx.out, HI.out, ← List.append_assoc, ← HCU.out]; have h6 := hr5; rw [List.length_append, List.length_singleton] at h6; exact HS7.out.add HLD.out h6 hb5 hg5))
                  · have h1 : (mm.f1.toList == (folderF nm).toList) = false := by simpa using fun e => he (toList_inj.1 e)
                    have HRW := Aside0.mk (reach_walk W B (foldersF l0) (edgeF l0 l1) mm.f1 (HG.out.below hst10.bel) edgeF_in hz hmem (by omega))
                    have HHE := Aside0.mk he
                    have HME := Aside0.mk hmem
                    clear hmem he
                    go_upto_if 119 with (first | ((try (refine gate_guard (by rfl) ?_; dsimp only)); go_at_call 35; refine HRW.out.mono ?_; rintro e w4 ⟨b4, S4, rfl, hm4, hS4, hb8⟩; have HS4 := Aside0.mk hS4; have HB8 := Aside0.mk hb8; have hst11 := hst10.under hb8; have hnew11 := (hb8.block wr.heap.size (Array.getElem?_eq_some_iff.1 hnew10).1).trans hnew10; clear hS4 hb8) | (at_lookup; (try (refine gate_guard (by rfl) ?_; dsimp only)); refine wp_num_look rfl _ _ rfl rfl hm4 (folderF nm) rfl hfz ?_))
                    by_cases hin2 : folderF nm ∈ S4
                    · have HI := Aside0.mk (show importF l0 l1 (folderF nm) mm = [⟨302, mm.f2, mm.f3⟩] by unfold importF; rw [if_neg (fun h => h HME.out), if_pos (.inr ((HS4.out _).1 hin2))])
                      have hi1 : (ind S4 (folderF nm) != 0) = true := by rw [ind_in hin2]; rfl
                      clear hin2 hst10 hnew10 hp1
                      have hst7 := hst11.under (below_drew (Below.refl _ _))
                      obtain ⟨u, oki, hl⟩ := hst7.lend hi
                      have huc : w4.cell? ⟨g, i, none⟩ = some u := hl.cell
                      have huf : w4.frozen? ⟨g, i, none⟩ = false := hl.free
                      have hc1 : w4.cell? ⟨wr.heap.size, 2, none⟩ = some (.int .i64 mm.f2) := cell_of_heap hnew11 (by rfl)
                      have hc2 : w4.cell? ⟨wr.heap.size, 3, none⟩ = some (.int .i64 mm.f3) := cell_of_heap hnew11 (by rfl)
                      have HF5 := Aside0.mk (hl.fresh)
                      have HN1 := Aside0.mk (hl.ne_typed (t := 48) hnew11 (by decide))
                      have HLD := Aside0.mk hl
                      have HPL := Aside0.mk (show wr.heap.size < w4.drew.heap.size from (Array.getElem?_eq_some_iff.1 hnew11).1)
                      have HS7 := Aside0.mk hst7
                      have HNG := Aside0.mk (HS7.out.ne_g (t := 48) hnew11 (by decide))
                      have hca : ∀ o, (w4.alloc o).drew.cell? ⟨g, i, none⟩ = some u := fun o => (cell_new (w := w4) (a := ⟨g, i, none⟩) HLD.out.gl o).trans huc
                      have hfa : ∀ o, (w4.alloc o).drew.frozen? ⟨g, i, none⟩ = false := fun o => (frozen_new (w := w4) (a := ⟨g, i, none⟩) HLD.out.gl o).trans huf
                      clear hl hst7 hst11
                      go_upto_region 22 with fail
                      go_region_law
                        ((rw [drew_alloc]; refine Kd.R_append_step k52 (w0 := w1) w1.heap.size (by rfl) (.tmp 138) (.tmp 144) 49 52 (.agg #[.int .i64 0, .int .i64 0, .int .i64 0]) 24 (by rfl) Tryd.underlying49 info52 rfl (by decide) (by omega) u cur ⟨302, mm.f2, mm.f3⟩ [.int .i64 302, .int .i64 mm.f2, .int .i64 mm.f3] (fun k => oki k ∨ k ≠ w2.heap.size ∧ w4.heap.size ≤ k) (fun _ => False) (by rfl) (by rfl) (k52_mkM _ _ _ ⟨302, mm.f2, mm.f3⟩) (fun _ hk => hk.elim) HF5.out HLD.out.row HS7.out.bel HS7.out.bel.size (by have := HCL.out; omega) ?_; intro v5 w5 hr5 hb5 hg5 hat5; obtain ⟨Av, cv, rfl⟩ := Kd.R_slice hr5; have hcz5 := (hg5.cell_far ⟨g, i, none⟩ HLD.out.gl HLD.out.ne_g).trans huc; have hfz5 := (hg5.frozen_far ⟨g, i, none⟩ HLD.out.gl HLD.out.ne_g).trans huf))
                      all_goals (try go_wp2)
                      all_goals (go_roundg (m1 - 1))
                      all_goals (first | omega | (refine ⟨j + 1, by go_num, by omega, ?_⟩; rw [HNx.out, HI.out, ← List.append_assoc, ← HCU.out]; have h6 := hr5; rw [List.length_append, List.length_singleton] at h6; exact HS7.out.add HLD.out h6 hb5 hg5))
                    · have HI := Aside0.mk (show importF l0 l1 (folderF nm) mm = [] by unfold importF; rw [if_neg (fun h => h HME.out), if_neg (fun h => h.elim HHE.out (fun h => hin2 ((HS4.out _).2 h)))])
                      have hi1 : (ind S4 (folderF nm) != 0) = false := by rw [ind_out hin2]; rfl
                      clear hin2
                      go_wp2
                      go_roundg (m1 - 1)
                      case measure => omega
                      case rel =>
                        refine ⟨j + 1, by go_num, by omega, ?_⟩
                        rw [HNx.out, HI.out, List.append_nil, ← HCU.out]
                        exact hst11
              · have hb4 : decide ((j : Int) < (ms.length : Int)) = false := decide_eq_false (by omega)
                rw [List.take_of_length_le (by omega), ← HRow.out] at hstj
                go_wp2
                go_roundg (m0 - 1)
                case measure => omega
                case rel =>
                  refine ⟨i + 1, by go_num, by omega, ?_⟩
                  obtain ⟨h1, h2, h3, h4⟩ := hstj
                  rw [partF_next] at h1
                  exact ⟨h1, h2, h3, h4⟩
    · have hb1 : decide ((i : Int) < (l0.length : Int)) = false := decide_eq_false (by omega)
      have ei : i = l0.length := by omega
      subst ei
      go_wp2
      go_ret2
      refine ⟨_, rfl, ?_, HB.out.trans (hst.bel.mono HB.out.size)⟩
      have := hst.out
      rw [partF_all] at this
      rw [HCF.out]
      exact Kd.S_mono (Kd.S_lower this HB.out.size) (fun _ _ => trivial)
end
end Go.Proofs.YtcejdokeaoklaaaDoor.PImp
