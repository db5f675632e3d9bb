import Derived.Test.YtcejdokeaoklaaaDoorFold
import Derived.Maps.RangeWalk
import Derived.Maps.Ext
import Derived.Sort.KeysCollected
import Derived.Test.YtcejdokeaoklaaaDoorListEv
import Derived.Test.YtcejdokeaoklaaaDoorShelfC
import Derived.WalkMore
import Derived.Outline
/-! A graph in memory: a map from strings to maps from strings to numbers; the laws at the operations, in the words of the walks. -/
set_option linter.unusedVariables false
namespace Go.Proofs.YtcejdokeaoklaaaDoor.PImp
open Go.RowKit Go.Sort Go.Maps Go.Proofs.YtcejdokeaoklaaaDoorW.PrintWords Go.Proofs.YtcejdokeaoklaaaDoorW.PrintLast Go.Proofs.YtcejdokeaoklaaaDoorW.PrintMore
open Go.Proofs.YtcejdokeaoklaaaDoor.Imp
def lk (s : ByteArray) : Lit := .string s.data.toList
theorem lk_inj {a b : ByteArray} (h : lk a = lk b) : a = b := by
  unfold lk at h
  injection h with h
  exact bytes_ext h
theorem small_max {s : ByteArray} (h : s.size < 1048577) : s.size ≤ maxLen := by unfold maxLen; omega
theorem key9 {s : ByteArray} (h : s.size < 1048577) : keyOf Tryd.prog 9 (.string s) = some (lk s) := WideMaps.keyOf_string_mk Tryd.underlying9 (small_max h)
theorem law9 : Keyed Tryd.prog 9 := string_keyed Tryd.underlying9
theorem lk_key {s : ByteArray} (h : s.size < 1048577) : WideAt.IsKeyLit (lk s) := law9.key (key9 h)
theorem zero3 (w : World) : (zeroValue 3).run Tryd.prog w = .ok (.int .i64 0) w := by kernel_rfl
theorem zero68 (w : World) : (zeroValue 68).run Tryd.prog w = .ok (.map none) w := by kernel_rfl
/-- How a map reads as an element: by its block's number. -/
def mapElem (v : Value) : Option (DataW Unit × List MemPlace) :=
  match v with
  | .map none => some (.lit (.int .i64 (-1)), [])
  | .map (some b) => some (.lit (.int .i64 (b : Int)), [])
  | _ => none
theorem mapElem_some (b : Nat) : mapElem (.map (some b)) = some (.lit (.int .i64 (b : Int)), []) := rfl
theorem mapElem_none : mapElem (.map none) = some (.lit (.int .i64 (-1)), []) := rfl
theorem mapElem_inv {v : Value} {y : DataW Unit × List MemPlace} (h : mapElem v = some y) : ∃ o, v = .map o := by
  unfold mapElem at h
  split at h
  · exact ⟨_, rfl⟩
  · exact ⟨_, rfl⟩
  · cases h
theorem mapElem_at {v : Value} {b : Nat} {ps : List MemPlace} (h : mapElem v = some (.lit (.int .i64 (b : Int)), ps)) : v = .map (some b) := by
  unfold mapElem at h
  split at h
  · simp only [Option.some.injEq, Prod.mk.injEq, DataW.lit.injEq, Lit.int.injEq, true_and] at h
    omega
  · simp only [Option.some.injEq, Prod.mk.injEq, DataW.lit.injEq, Lit.int.injEq, true_and] at h
    rename_i b'
    have : b' = b := by omega
    rw [this]
  · cases h
/-! ### a map from strings to numbers: what is at each -/
def NumMap (w : World) (b n : Nat) (f : ByteArray → Int) : Prop := ∃ D : DataW Unit, w.ownsMap Tryd.prog 9 (plainElem Tryd.prog 3) b n D ∧ ∀ s, D.atKey (lk s) (.lit (.int .i64 0)) = .lit (.int .i64 (f s))
theorem NumMap.made (w : World) : NumMap (w.alloc (.map #[] 0)) w.heap.size 0 (fun _ => 0) := ⟨_, World.ownsMap_made _ _ _ _, fun s => atKey_of_not_has rfl _⟩
theorem NumMap.lt {w : World} {b n : Nat} {f : ByteArray → Int} (h : NumMap w b n f) : b < w.heap.size := by
  obtain ⟨D, h, _⟩ := h
  exact h.lt
theorem NumMap.kept {w w' : World} {b n : Nat} {f : ByteArray → Int} {row : Option Nat} (h : NumMap w b n f) (hg : w.grownBy w' row) (hne : some b ≠ row) : NumMap w' b n f := by
  obtain ⟨D, h, hf⟩ := h
  exact ⟨D, h.kept hg hne, hf⟩
theorem ownsMap_below {R : Value → Option (DataW Unit × List MemPlace)} {w w' : World} {b n : Nat} {D : DataW Unit} (h : w.ownsMap Tryd.prog 9 R b n D) (hb : Below w.heap.size w w') : w'.ownsMap Tryd.prog 9 R b n D := by
  have hlt := h.lt
  obtain ⟨es, clock, he, F, hs, hD⟩ := h
  exact ⟨es, clock, (hb.block b hlt).trans he, F, hs, hD⟩
theorem NumMap.below {w w' : World} {b n : Nat} {f : ByteArray → Int} (h : NumMap w b n f) (hb : Below w.heap.size w w') : NumMap w' b n f := by
  obtain ⟨D, h, hf⟩ := h
  exact ⟨D, ownsMap_below h hb, hf⟩
/-- A map's block is no row's. -/
theorem map_ne_row {R : Value → Option (DataW Unit × List MemPlace)} {w : World} {b n : Nat} {D : DataW Unit} (h : w.ownsMap Tryd.prog 9 R b n D) {base : Nat} {e : TypeId} {size : Nat} {v : Value} {m : Nat} {xs : List Value} (hr : w.ownsRow base e size v m xs) : some b ≠ v.ownBlock := by
  obtain ⟨es, clock, he, _⟩ := h
  rcases hr.2 with ⟨rfl, _⟩ | ⟨g, cap, cur, rfl, _, hb, _⟩
  · simp [Value.ownBlock]
  · intro e1
    have : b = g := by simpa [Value.ownBlock] using e1
    subst this
    rw [he] at hb
    cases hb
/-- A map's block is no iterator's. -/
theorem map_ne_iter {R R' : Value → Option (DataW Unit × List MemPlace)} {w : World} {b n : Nat} {D : DataW Unit} (h : w.ownsMap Tryd.prog 9 R b n D) {b' r n' : Nat} {D' : DataW Unit} {left : Lit → Bool} {cnt : Nat} (hr : w.ranges Tryd.prog 9 R' b' r n' D' left cnt) : b ≠ r := by
  obtain ⟨es, clock, he, _⟩ := h
  obtain ⟨_, _, _, _, _, _, _, _, _, hit, _⟩ := hr
  rintro rfl
  rw [he] at hit
  cases hit
section
variable {w : World} {ops : Array Oper} {rest : List Oper} {o : Oper} {a : Act} {Q : Exit → Act → World → Prop}
/-- 'm[s]', a number. -/
theorem wp_num_look (hg : o.guard = none) (m x : Operand) (hop : o.op = Op.lookup 68 m x false) {b n : Nat} {f : ByteArray → Int} (hm : a.eval m = .map (some b)) (h : NumMap w b n f) (s : ByteArray) (hx : a.eval x = .string s) (hs : s.size < 1048577)
    (hK : wpList Tryd.prog ops Q rest (a.put o.dst (.int .i64 (f s))) w) : wpList Tryd.prog ops Q (o :: rest) a w := by
  obtain ⟨D, h, hf⟩ := h
  refine wpList_lookup_own_int w hg m x 68 hop 9 3 .i64 law9 Tryd.underlying68 Tryd.underlying3 (zero3 w) b n D hm h _ _ hx (key9 hs) ?_
  intro c hat _
  have := (hf s).symm.trans hat
  simp only [DataW.lit.injEq, Lit.int.injEq, true_and] at this
  rw [← this]
  exact hK
/-- 'm[s] = v', v a number. -/
theorem wp_num_put (hg : o.guard = none) (m x v : Operand) (hop : o.op = Op.mapUpdate 68 m x v) {b n : Nat} {f : ByteArray → Int} (hm : a.eval m = .map (some b)) (h : NumMap w b n f) (hn : n < 1048577) (s : ByteArray) (hx : a.eval x = .string s) (hs : s.size < 1048577)
    (c : Int) (hv : a.eval v = .int .i64 c) (hc : (Lit.int .i64 c).wf = true)
    (hK : ∀ w', NumMap w' b (n + 1) (fun t => if t = s then c else f t) → w.grownBy w' (some b) → wpList Tryd.prog ops Q rest (a.put o.dst undef) w') : wpList Tryd.prog ops Q (o :: rest) a w := by
  obtain ⟨D, h, hf⟩ := h
  refine wpList_mapUpdate_own w hg m x v 68 hop 9 3 law9 Tryd.underlying68 _ b n D hm h (by unfold maxLen; omega) _ _ _ hx hv (key9 hs) _ [] (plainElem_int Tryd.underlying3 hc) ?_
  intro w1 hown hgr
  refine hK w1 ⟨_, hown, fun t => ?_⟩ hgr
  by_cases e : t = s
  · subst e
    rw [atKey_put_same h.isMap (lk_key hs)]
    simp only [if_true]
  · rw [atKey_put_other (fun he => e (lk_inj he)), hf t]
    simp only [e, if_false]
/-- 'g[s]', a map. -/
theorem wp_map_look (hg : o.guard = none) (m x : Operand) (hop : o.op = Op.lookup 60 m x false) {B n : Nat} {D : DataW Unit} (hm : a.eval m = .map (some B)) (h : w.ownsMap Tryd.prog 9 mapElem B n D) (s : ByteArray) (hx : a.eval x = .string s) (hs : s.size < 1048577)
    {b : Nat} (hb : D.atKey (lk s) (.lit (.int .i64 (-1))) = .lit (.int .i64 (b : Int))) (hK : wpList Tryd.prog ops Q rest (a.put o.dst (.map (some b))) w) : wpList Tryd.prog ops Q (o :: rest) a w := by
  refine wpList_plain hg fun K' hK' => ?_
  obtain ⟨v, ps, hrun, hv⟩ := h.lookup law9 (show Tryd.prog.underlying 60 = some (.map 9 68) from Tryd.underlying60) (zero68 w) mapElem_none (key9 hs)
  rw [hb] at hv
  obtain rfl := mapElem_at hv
  unfold Oper.wp
  simp [execOp, hop, hm, hx, hrun, Result.andThen]
  exact hK' _ _ hK
/-- '_, is := g[s]'. -/
theorem wp_map_is (hg : o.guard = none) (m x : Operand) (hop : o.op = Op.lookup 60 m x true) {B n : Nat} {D : DataW Unit} (hm : a.eval m = .map (some B)) (h : w.ownsMap Tryd.prog 9 mapElem B n D) (s : ByteArray) (hx : a.eval x = .string s) (hs : s.size < 1048577)
    {c : Bool} (hc : Maps.has D (lk s) = c) (hK : ∀ q, wpList Tryd.prog ops Q rest (a.put o.dst (.tuple #[.map q, .bool c])) w) : wpList Tryd.prog ops Q (o :: rest) a w := by
  refine wpList_lookup_own_ok w hg m x 60 hop 9 68 law9 Tryd.underlying60 mapElem (zero68 w) _ [] mapElem_none B n D hm h _ _ hx (key9 hs) ?_
  intro v ps hv
  obtain ⟨q, rfl⟩ := mapElem_inv hv
  rw [hc]
  exact hK q
/-- 'g[s] = m'. -/
theorem wp_map_put (hg : o.guard = none) (m x v : Operand) (hop : o.op = Op.mapUpdate 60 m x v) {B n : Nat} {D : DataW Unit} (hm : a.eval m = .map (some B)) (h : w.ownsMap Tryd.prog 9 mapElem B n D) (hn : n < 1048577) (s : ByteArray) (hx : a.eval x = .string s) (hs : s.size < 1048577)
    {b : Nat} (hv : a.eval v = .map (some b)) (hK : ∀ w', w'.ownsMap Tryd.prog 9 mapElem B (n + 1) (D.put (lk s) (.lit (.int .i64 (b : Int)))) → w.grownBy w' (some B) → wpList Tryd.prog ops Q rest (a.put o.dst undef) w') : wpList Tryd.prog ops Q (o :: rest) a w :=
  wpList_mapUpdate_own w hg m x v 60 hop 9 68 law9 Tryd.underlying60 mapElem B n D hm h (by unfold maxLen; omega) _ _ _ hx hv (key9 hs) _ [] (mapElem_some b) hK
/-- 'm[s] = 1' of an inner map, its keys alone being looked at. -/
theorem wp_key_put (hg : o.guard = none) (m x v : Operand) (hop : o.op = Op.mapUpdate 68 m x v) {b n : Nat} {D : DataW Unit} (hm : a.eval m = .map (some b)) (h : w.ownsMap Tryd.prog 9 (plainElem Tryd.prog 3) b n D) (hn : n < 1048577) (s : ByteArray) (hx : a.eval x = .string s) (hs : s.size < 1048577)
    (c : Int) (hv : a.eval v = .int .i64 c) (hc : (Lit.int .i64 c).wf = true)
    (hK : ∀ w', w'.ownsMap Tryd.prog 9 (plainElem Tryd.prog 3) b (n + 1) (D.put (lk s) (.lit (.int .i64 c))) → w.grownBy w' (some b) → wpList Tryd.prog ops Q rest (a.put o.dst undef) w') : wpList Tryd.prog ops Q (o :: rest) a w :=
  wpList_mapUpdate_own w hg m x v 68 hop 9 3 law9 Tryd.underlying68 _ b n D hm h (by unfold maxLen; omega) _ _ _ hx hv (key9 hs) _ [] (plainElem_int Tryd.underlying3 hc) hK
/-- 'range m', m an inner map. -/
theorem wp_key_range (hg : o.guard = none) (m : Operand) (hop : o.op = Op.range 68 m) {b n : Nat} {D : DataW Unit} (hm : a.eval m = .map (some b)) (h : w.ownsMap Tryd.prog 9 (plainElem Tryd.prog 3) b n D)
    (hK : ∀ w', w'.ranges Tryd.prog 9 (plainElem Tryd.prog 3) b w.heap.size n D (Maps.has D) (Maps.size D) → w.grownBy w' none → w'.heap.size = w.heap.size + 1 → wpList Tryd.prog ops Q rest (a.put o.dst (.pointer (some ⟨w.heap.size, 0, none⟩))) w') : wpList Tryd.prog ops Q (o :: rest) a w :=
  wpList_range_own w hg m 68 hop 9 3 law9 Tryd.underlying68 _ b n D hm h hK
/-- The step of a range over an inner map: nothing is left, or a key has come. -/
theorem wp_key_next (hg : o.guard = none) (it : Operand) (hop : o.op = Op.next it false) {b r n : Nat} {D : DataW Unit} {left : Lit → Bool} {cnt : Nat} (hit : a.eval it = .pointer (some ⟨r, 0, none⟩)) (h : w.ranges Tryd.prog 9 (plainElem Tryd.prog 3) b r n D left cnt)
    (hDone : (∀ t, left (lk t) = false) → wpList Tryd.prog ops Q rest (a.put o.dst (.tuple #[.bool false])) w)
    (hMore : ∀ (t : ByteArray) (c : Int) (w' : World) (cnt' : Nat), left (lk t) = true → Maps.has D (lk t) = true → w'.ranges Tryd.prog 9 (plainElem Tryd.prog 3) b r n D (fun z => left z && !z.sameKey (lk t)) cnt' → cnt' < cnt → w.grownBy w' (some r) →
      (Instr.entry (.pointer (some ⟨r, 0, none⟩))).run Tryd.prog w' = .ok (.tuple #[.string t, .int .i64 c]) w' → wpList Tryd.prog ops Q rest (a.put o.dst (.tuple #[.bool true, .string t, .int .i64 c])) w') : wpList Tryd.prog ops Q (o :: rest) a w := by
  refine wpList_next_ranges w hg it hop 9 law9 (plainElem Tryd.prog 3) encStr (Value.int .i64) (fun key kl hk => by obtain ⟨x, hx, _⟩ := Maps.keyOf_str Tryd.underlying9 hk; exact ⟨x, hx⟩) (fun v y hv => by obtain ⟨c, rfl, _⟩ := plainElem_int_inv Tryd.underlying3 hv; exact ⟨c, rfl⟩) b r n D left cnt hit h (fun _ hl => hDone (fun t => hl _)) ?_
  intro x c kl y w' cnt' hkey hlk hv hat hrg hlt hgr _ hen
  obtain ⟨x', ex, rfl, _⟩ := Maps.keyOf_str Tryd.underlying9 hkey
  obtain rfl : x = x' := encStr_inj ex
  exact hMore (Imp.strOf x) c w' cnt' hlk (has_true_of_atKey hat) hrg hlt hgr hen
end
/-- What is struck from 'left'. -/
theorem left_struck {left : Lit → Bool} {t x : ByteArray} (ht : x.size < 1048577) : (left (lk t) && !(lk t).sameKey (lk x)) = false ↔ (left (lk t) = false ∨ t = x) := by
  by_cases e : t = x
  · subst e
    rw [WideAt.sameKey_self (lk_key ht)]
    simp
  · rw [sameKey_ne (fun he => e (lk_inj he))]
    simp [e]
/-! ### the graph -/
/-- B is a map from the nodes to maps whose keys are a node's neighbours. -/
def GraphAt (w : World) (B : Nat) (nodes : List ByteArray) (edge : ByteArray → ByteArray → Bool) : Prop :=
  ∃ (n : Nat) (D : DataW Unit), w.ownsMap Tryd.prog 9 mapElem B n D ∧ (∀ s, Maps.has D (lk s) = decide (s ∈ nodes)) ∧
    ∀ s ∈ nodes, ∃ (b n' : Nat) (D' : DataW Unit), D.atKey (lk s) (.lit (.int .i64 (-1))) = .lit (.int .i64 (b : Int)) ∧ w.ownsMap Tryd.prog 9 (plainElem Tryd.prog 3) b n' D' ∧ ∀ t, Maps.has D' (lk t) = edge s t
theorem GraphAt.below {w w' : World} {B : Nat} {nodes : List ByteArray} {edge : ByteArray → ByteArray → Bool} (h : GraphAt w B nodes edge) (hb : Below w.heap.size w w') : GraphAt w' B nodes edge := by
  obtain ⟨n, D, h1, h2, h3⟩ := h
  refine ⟨n, D, ownsMap_below h1 hb, h2, fun s hs => ?_⟩
  obtain ⟨b, n', D', h4, h5, h6⟩ := h3 s hs
  exact ⟨b, n', D', h4, ownsMap_below h5 hb, h6⟩
end Go.Proofs.YtcejdokeaoklaaaDoor.PImp

/-! (graph).reach: the walk. -/
set_option linter.unusedVariables false
namespace Go.Proofs.YtcejdokeaoklaaaDoor.PImp
open Go.RowKit Go.Sort Go.Maps Go.Proofs.YtcejdokeaoklaaaDoorW.PrintWords Go.Proofs.YtcejdokeaoklaaaDoorW.PrintLast Go.Proofs.YtcejdokeaoklaaaDoorW.PrintMore
open Go.Proofs.YtcejdokeaoklaaaDoor.Imp
def ind (S : List ByteArray) (s : ByteArray) : Int := if s ∈ S then 1 else 0
theorem ind_in {S : List ByteArray} {s : ByteArray} (h : s ∈ S) : ind S s = 1 := if_pos h
theorem ind_out {S : List ByteArray} {s : ByteArray} (h : s ∉ S) : ind S s = 0 := if_neg h
theorem ind_snoc (S : List ByteArray) (t : ByteArray) : (fun u => if u = t then 1 else ind S u) = ind (S ++ [t]) := by
  funext u
  by_cases e : u = t
  · rw [if_pos e, ind_in (by rw [e]; simp)]
  · rw [if_neg e]
    by_cases h : u ∈ S
    · rw [ind_in h, ind_in (by simp [h])]
    · rw [ind_out h, ind_out (by simp [h, e])]
theorem ind_nil : (fun _ => 0) = ind [] := by
  funext u
  rw [ind_out (by simp)]
/-- A row of strings of the call's own. -/
def RowS (w : World) (base : Nat) (v : Value) (T : List ByteArray) : Prop := w.ownsRow base 9 1 v T.length (encs Value.string T)
theorem RowS.of_R {w : World} {base : Nat} {ok : Nat → Prop} {v : Value} {T : List ByteArray} (h : Kd.R Kd.string 9 w base ok v T) : RowS w base v T := Kd.own_of_R h
theorem RowS.to_R {w : World} {base : Nat} {v : Value} {T : List ByteArray} (h : RowS w base v T) : Kd.R Kd.string 9 w base (fun _ => True) v T := Kd.R_of_own h (fun _ _ => trivial)
theorem RowS.kept {w w' : World} {base : Nat} {v : Value} {T : List ByteArray} {row : Option Nat} (h : RowS w base v T) (hg : w.grownBy w' row) (hne : some row ≠ some v.ownBlock) : RowS w' base v T := by
  refine World.ownsRow.kept h hg ?_
  by_cases e : v.ownBlock = none
  · exact .inl e
  · exact .inr (fun e2 => hne (by rw [e2]))
theorem RowS.below {w w' : World} {base : Nat} {v : Value} {T : List ByteArray} (h : RowS w base v T) (hb : Below w.heap.size w w') : RowS w' base v T := pw_own_below h hb
theorem wp_app {ops : Array Oper} {rest : List Oper} {o : Oper} {a : Act} {Q : Exit → Act → World → Prop} (hgd : o.guard = none) (s x : Operand) (ho : o.op = .call { callee := .builtin .append, args := #[s, x], argTypes := #[26, 26] })
    {w0 W : World} {base : Nat} {v : Value} {T : List ByteArray} (p : ByteArray) (hs : a.eval s = v) (hx : a.eval x = .slice (some ⟨W.heap.size, 0, none⟩) 1 1) (HO : RowS W base v T) (HB : Below base w0 W) (hbase : base ≤ W.heap.size) (hl : T.length < 4194304)
    (hK : ∀ v1 w1, RowS w1 base v1 (T ++ [p]) → Below base w0 w1 → W.grownBy w1 v.ownBlock → (v1.ownBlock = v.ownBlock ∨ ∃ b, v1.ownBlock = some b ∧ W.heap.size ≤ b) → wpList Tryd.prog ops Q rest (a.put o.dst v1) w1) :
    wpList Tryd.prog ops Q (o :: rest) a (W.alloc (.cells #[.string p] 9)) :=
  Kd.R_append Kd.string (w0 := w0) base hgd s x 26 9 (.string ⟨#[]⟩) 16 ho Tryd.underlying26 info9 rfl (by decide) (by omega) v T p [.string p] (fun _ => True) (fun _ => False) hs hx rfl (fun _ hk => hk.elim) (fun _ _ => trivial) HO.to_R HB hbase (by omega)
    (fun v1 w1 ho1 hb1 hg1 hat1 => hK v1 w1 (.of_R ho1) hb1 hg1 hat1)
/-- Where the search stands: S: whom it has met; T: whom it has still to look at; x: whom it looks at. -/
structure RSt (w0 : World) (nodes : List ByteArray) (edge : ByteArray → ByteArray → Bool) (fr : ByteArray) (b5 : Nat) (x : Option ByteArray) (S T : List ByteArray) (v : Value) (w : World) : Prop where
  row : RowS w w0.heap.size v T
  map : NumMap w b5 S.length (ind S)
  low : w0.heap.size ≤ b5
  bel : Below w0.heap.size w0 w
  nd : S.Nodup
  reach : ∀ s ∈ S, Imp.Reach (fun a b => edge a b = true) fr s
  sn : ∀ s ∈ S, s ∈ nodes
  tn : ∀ t ∈ T, t ∈ nodes
  cl : ∀ z, (z = fr ∨ z ∈ S) → z ∉ T → x ≠ some z → ∀ y, edge z y = true → y ∈ S
  tl : T.length ≤ S.length + 1
  tr : ∀ t ∈ T, t = fr ∨ t ∈ S
  xr : ∀ y, x = some y → y = fr ∨ y ∈ S
section
variable {w0 w : World} {nodes : List ByteArray} {edge : ByteArray → ByteArray → Bool} {fr : ByteArray} {b5 : Nat} {x : Option ByteArray} {S T : List ByteArray} {v : Value}
theorem RSt.sl (h : RSt w0 nodes edge fr b5 x S T v w) : S.length ≤ nodes.length := subset_length h.nd h.sn
theorem RSt.iter (h : RSt w0 nodes edge fr b5 x S T v w) {R' : Value → Option (DataW Unit × List MemPlace)} {b r n : Nat} {D : DataW Unit} {left : Lit → Bool} {cnt : Nat} (hr : w.ranges Tryd.prog 9 R' b r n D left cnt) (hlow : w0.heap.size ≤ r) {w' : World} (hg : w.grownBy w' (some r)) : RSt w0 nodes edge fr b5 x S T v w' := by
  obtain ⟨h1, h2, h3, h4, h5, h6, h7, h8, h9, h10, h11, h12⟩ := h
  have hne := row_ne_iter h1 hr
  have hm : some b5 ≠ some r := by
    obtain ⟨D', hD, _⟩ := h2
    exact fun e => map_ne_iter hD hr (by injection e)
  exact ⟨h1.kept hg (fun e => hne (by injection e)), h2.kept hg hm, h3, h4.grown hg h4.size (fun k e => by injection e with e; omega), h5, h6, h7, h8, h9, h10, h11, h12⟩
theorem RSt.under (h : RSt w0 nodes edge fr b5 x S T v w) {w' : World} (hb : Below w.heap.size w w') : RSt w0 nodes edge fr b5 x S T v w' := by
  obtain ⟨h1, h2, h3, h4, h5, h6, h7, h8, h9, h10, h11, h12⟩ := h
  exact ⟨h1.below hb, h2.below hb, h3, h4.trans (hb.mono h4.size), h5, h6, h7, h8, h9, h10, h11, h12⟩
theorem RSt.start (w0 : World) (nodes : List ByteArray) (edge : ByteArray → ByteArray → Bool) (fr : ByteArray) (hf : fr ∈ nodes) :
    RSt w0 nodes edge fr w0.heap.size none [] [fr] (.slice (some ⟨w0.heap.size + 1, 0, none⟩) 1 1) ((w0.alloc (.map #[] 0)).alloc (.cells #[.string fr] 9)) := by
  have hb : Below w0.heap.size w0 ((w0.alloc (.map #[] 0)).alloc (.cells #[.string fr] 9)) := ((Below.refl _ _).alloc (Nat.le_refl _) _).alloc (by simp) _
  have hr := World.ownsRow_lit (base := w0.heap.size) (e := 9) (size := 1) (w0.alloc (.map #[] 0)) #[.string fr] 1 (by simp) (by decide) rfl
  refine ⟨?_, ?_, Nat.le_refl _, hb, List.nodup_nil, by simp, by simp, by simpa using hf, ?_, by simp, by simp, by simp⟩
  · simpa [RowS, encs] using hr
  · have := (NumMap.made w0).kept (World.grownBy_alloc _ (.cells #[.string fr] 9) none) (by simp)
    rw [ind_nil] at this
    exact this
  · intro z hz hzt _ y _
    rcases hz with rfl | hz
    · simp at hzt
    · simp at hz
theorem RSt.row_put (h : RSt w0 nodes edge fr b5 x S T v w) {w' : World} (hg : w.grownBy w' (some b5)) : RowS w' w0.heap.size v T := by
  obtain ⟨D', hD, _⟩ := h.map
  have hne := map_ne_row hD h.row
  exact h.row.kept hg (fun e => hne (by injection e))
theorem RSt.bel_put (h : RSt w0 nodes edge fr b5 x S T v w) {w' : World} (hg : w.grownBy w' (some b5)) : Below w0.heap.size w0 w' := h.bel.grown hg h.bel.size (fun k e => by cases e; exact h.low)
theorem RSt.iter_put (h : RSt w0 nodes edge fr b5 x S T v w) {b r n : Nat} {D : DataW Unit} {left : Lit → Bool} {cnt : Nat} (hr : w.ranges Tryd.prog 9 (plainElem Tryd.prog 3) b r n D left cnt) (hlow : w0.heap.size ≤ r) {w' w'' : World} (hg : w.grownBy w' (some b5)) (hg' : w'.grownBy w'' v.ownBlock) (hrow : RowS w' w0.heap.size v T) (hb : b ≠ b5) :
    w''.ranges Tryd.prog 9 (plainElem Tryd.prog 3) b r n D left cnt := by
  obtain ⟨D', hD, _⟩ := h.map
  have h1 := hr.kept hg (by simpa using hb) (by have := map_ne_iter hD hr; simpa using fun e => this e.symm)
  exact h1.kept hg' (map_ne_row h1.owns hrow) (row_ne_iter hrow h1)
theorem RSt.via {y t : ByteArray} (h : RSt w0 nodes edge fr b5 (some y) S T v w) (ht : edge y t = true) : Imp.Reach (fun a b => edge a b = true) fr t := by
  rcases h.xr y rfl with rfl | hy
  · exact .one ht
  · exact .step (h.reach y hy) ht
/-- The last of T is taken off, and looked at. -/
theorem RSt.pop {T' : List ByteArray} {y : ByteArray} {A : Option Addr} {n c : Nat} (h : RSt w0 nodes edge fr b5 none S (T' ++ [y]) (.slice A (n + 1) c) w) (hn : T'.length = n) : RSt w0 nodes edge fr b5 (some y) S T' (.slice A n c) w := by
  obtain ⟨h1, h2, h3, h4, h5, h6, h7, h8, h9, h10, h11, h12⟩ := h
  refine ⟨?_, h2, h3, h4, h5, h6, h7, fun t ht => h8 t (by simp [ht]), ?_, by simp at h10; omega, fun t ht => h11 t (by simp [ht]), fun z hz => by injection hz with hz; rw [← hz]; exact h11 y (by simp)⟩
  · have h1' : w.ownsRow w0.heap.size 9 1 (.slice A (n + 1) c) (n + 1) (encs Value.string (T' ++ [y])) := by
      have := h1
      unfold RowS at this
      rw [show (T' ++ [y]).length = n + 1 by simp [hn]] at this
      exact this
    have := own_take (m := n) h1' (by omega)
    unfold RowS
    rw [hn]
    have e : (encs Value.string (T' ++ [y])).take (n * 1) = encs Value.string T' := by
      unfold encs
      rw [List.map_append, List.take_append_of_le_length (by simp [hn]), List.take_of_length_le (by simp [hn])]
    rw [e] at this
    exact this
  · intro z hz hzt hne t ht
    exact h9 z hz (by simp; exact ⟨hzt, fun e => hne (by rw [e])⟩) (by simp) t ht
theorem RSt.push {y t : ByteArray} (h : RSt w0 nodes edge fr b5 (some y) S T v w) (ht : t ∉ S) (htn : t ∈ nodes) (hr : Imp.Reach (fun a b => edge a b = true) fr t) {w3 w4 : World} {v4 : Value}
    (hm3 : NumMap w3 b5 (S.length + 1) (fun u => if u = t then 1 else ind S u)) (hrow : RowS w3 w0.heap.size v T) (h4 : RowS w4 w0.heap.size v4 (T ++ [t])) (hb4 : Below w0.heap.size w0 w4) (hg4 : w3.grownBy w4 v.ownBlock) :
    RSt w0 nodes edge fr b5 (some y) (S ++ [t]) (T ++ [t]) v4 w4 := by
  obtain ⟨h1, h2, h3, _, h5, h6, h7, h8, h9, h10, h11, h12⟩ := h
  have hne : some b5 ≠ v.ownBlock := by
    obtain ⟨D', hD, _⟩ := hm3
    exact map_ne_row hD hrow
  refine ⟨h4, ?_, h3, hb4, ?_, ?_, ?_, ?_, ?_, by simp; omega, ?_, fun z hz => (h12 z hz).imp id (fun h => by simp [h])⟩
  · rw [ind_snoc] at hm3
    have := hm3.kept hg4 hne
    rw [List.length_append, List.length_singleton]
    exact this
  · rw [List.nodup_append]
    exact ⟨h5, by simp, fun a ha b hb e => by simp at hb; subst hb; exact ht (e ▸ ha)⟩
  · intro s hs
    rcases List.mem_append.1 hs with hs | hs
    · exact h6 s hs
    · simp at hs; rw [hs]; exact hr
  · intro s hs
    rcases List.mem_append.1 hs with hs | hs
    · exact h7 s hs
    · simp at hs; rw [hs]; exact htn
  · intro s hs
    rcases List.mem_append.1 hs with hs | hs
    · exact h8 s hs
    · simp at hs; rw [hs]; exact htn
  · intro z hz hzt hne y' hy
    simp only [List.mem_append, List.mem_singleton, not_or] at hzt hz ⊢
    rcases hz with hz | hz | hz
    · exact .inl (h9 z (.inl hz) hzt.1 hne y' hy)
    · exact .inl (h9 z (.inr hz) hzt.1 hne y' hy)
    · exact absurd hz hzt.2
  · intro s hs
    rcases List.mem_append.1 hs with hs | hs
    · exact (h11 s hs).imp id (fun h => by simp [h])
    · simp at hs; exact .inr (by simp [hs])
/-- All that it looked at has been met. -/
theorem RSt.looked {y : ByteArray} (h : RSt w0 nodes edge fr b5 (some y) S T v w) (hall : ∀ z, edge y z = true → z ∈ S) : RSt w0 nodes edge fr b5 none S T v w := by
  obtain ⟨h1, h2, h3, h4, h5, h6, h7, h8, h9, h10, h11, h12⟩ := h
  refine ⟨h1, h2, h3, h4, h5, h6, h7, h8, ?_, h10, h11, fun z hz => by cases hz⟩
  intro z hz hzt _ t ht
  by_cases e : z = y
  · rw [e] at ht
    exact hall t ht
  · exact h9 z hz hzt (by simp; exact fun e2 => e e2.symm) t ht
/-- Nobody is left: it has met all that are reached, and no one else. -/
theorem RSt.done (h : RSt w0 nodes edge fr b5 none S [] v w) (s : ByteArray) : s ∈ S ↔ Imp.Reach (fun a b => edge a b = true) fr s := by
  refine ⟨h.reach s, fun hr => hr.in_closed (S := fun s => s ∈ S) (fun b hb => h.cl fr (.inl rfl) (by simp) (by simp) b hb) (fun b c hb hbc => h.cl b (.inr hb) (by simp) (by simp) c hbc)⟩
end
set_option maxHeartbeats 8000000 in
set_option maxRecDepth 100000 in
theorem reach_walk (w0 : World) (B : Nat) (nodes : List ByteArray) (edge : ByteArray → ByteArray → Bool) (fr : ByteArray) (hG : GraphAt w0 B nodes edge) (hE : ∀ s t, edge s t = true → t ∈ nodes) (hz : ∀ s ∈ nodes, s.size < 1048577) (hf : fr ∈ nodes) (hn : nodes.length < 1048577) :
    Calls Tryd.prog 35 #[.map (some B), .string fr] w0 fun e w' => ∃ b S, e = .returned (.map (some b)) ∧ NumMap w' b S.length (ind S) ∧ (∀ s, s ∈ S ↔ Imp.Reach (fun a b => edge a b = true) fr s) ∧ Below w0.heap.size w0 w' := by
  have hst0 := RSt.start w0 nodes edge fr hf
  have hmm := @run_makeMap Tryd.prog
  go_enter Tryd.func35, Tryd.ntmps35
  go_wp2
  go_loopg [6] (2 * nodes.length + 1) (fun kq v6 w' => ∃ S T, RSt w0 nodes edge fr w0.heap.size none S T v6 w' ∧ 2 * (nodes.length - S.length) + T.length ≤ kq)
  case atStart => exact ⟨[], [fr], hst0, by simp⟩
  case round =>
    clear hst0
    obtain ⟨S, T, hst, hk⟩ := hrel
    obtain ⟨m0, rfl⟩ : ∃ m0, m0 = gk := ⟨_, rfl⟩
    obtain ⟨wo, rfl⟩ : ∃ wo : World, wo = wr := ⟨_, rfl⟩
    rcases List.eq_nil_or_concat T with rfl | ⟨T', y, hT⟩
    · obtain ⟨A, c, rfl⟩ := Kd.R_slice hst.row.to_R
      go_wp2
      go_ret
      exact ⟨_, S, rfl, hst.map, fun s => hst.done s, hst.bel⟩
    · rw [List.concat_eq_append] at hT
      subst hT
      have hl : (T' ++ [y]).length = T'.length + 1 := by rw [List.length_append, List.length_singleton]
      obtain ⟨A, c, hv, hcl, hC⟩ := Kd.R_reads hst.row.to_R
      rw [hl] at hv
      subst hv
      rw [hl] at hcl hC hk
      obtain ⟨ad, e1, hx⟩ := Kd.at_string hC (T'.length : Int) (by omega) (by omega)
      cases e1
      rw [rdOf_get (show T'.length < (T' ++ [y]).length by omega)] at hx
      simp only [Int.toNat_natCast] at hx
      have hy : (T' ++ [y])[T'.length]'(by omega) = y := by simp
      rw [hy] at hx
      have hst1 := hst.pop rfl
      have hyn : y ∈ nodes := hst.tn y (by simp)
      have hys := hz y hyn
      obtain ⟨nG, D, hD0, hD2, hD3⟩ := hG
      obtain ⟨b, n', D', e1, e20, e3⟩ := hD3 y hyn
      have hbl := e20.lt
      have hD1 := ownsMap_below hD0 hst.bel
      have e2 := ownsMap_below e20 hst.bel
      have HE := Aside0.mk e1
      have HK := Aside0.mk e3
      have p3 : T'.length < 4611686018427387904 := by
        have := hst.tl
        have := hst.sl
        omega
      have hw0 : wrap64 (T'.length : Int) = (T'.length : Int) := wrap_id (by omega) (by omega)
      clear hst hy hl e1 e3 hD2 hD3 hD0 e20
      go_wp2_with (first | (at_lookup; refine wp_map_look rfl _ _ rfl rfl hD1 y rfl hys HE.out ?_) | (at_range; refine wp_key_range rfl _ rfl rfl e2 ?_; intro w1 hrg hg1 hs1; have HS := Aside0.mk hs1; clear hs1))
      go_frame
      have hlow : w0.heap.size ≤ wo.heap.size := hst1.bel.size
      have hst2 := hst1.under ((Below.refl _ _).grown hg1 (Nat.le_refl _) (by simp))
      go_loopg [6] (Maps.size D') (fun kq v6 w' => ∃ left cnt S T, w'.ranges Tryd.prog 9 (plainElem Tryd.prog 3) b wo.heap.size n' D' left cnt ∧ cnt ≤ kq ∧ RSt w0 nodes edge fr w0.heap.size (some y) S T v6 w' ∧ Aside0 (∀ z, edge y z = true → left (lk z) = false → z ∈ S) ∧ 2 * (nodes.length - S.length) + T.length + 1 ≤ m0)
      case atStart => exact ⟨_, _, S, T', hrg, Nat.le_refl _, hst2, ⟨fun z hz hl => by rw [HK.out, hz] at hl; cases hl⟩, by omega⟩
      case round =>
        clear hst2 hst1 hrg hx hg1 hk hcl hC hD1 e2 HE
        obtain ⟨left, cnt, S2, T2, hrg2, hc, hst2, HA, hk2⟩ := hrel
        go_wp2_with (at_next; refine wp_key_next rfl _ rfl rfl hrg2 ?_ ?_)
        · intro hl0
          have HL := Aside0.mk hl0
          clear hl0
          go_wp2
          go_roundg (m0 - 1)
          case measure => omega
          case rel => exact ⟨S2, T2, hst2.looked (fun z hz => HA.out z hz (HL.out z)), by omega⟩
        · intro t c1 w3 cnt3 hlk hhas hrg3 hlt hg3 hen
          have hst3 := hst2.iter hrg2 hlow hg3
          have htE : edge y t = true := by rw [← HK.out t]; exact hhas
          have htn := hE y t htE
          have hts := hz t htn
          have HA3 := Aside0.mk (show ∀ z, edge y z = true → (left (lk z) && !(lk z).sameKey (lk t)) = false → z ∈ S2 ∨ z = t from fun z hz1 hz2 => ((left_struck (left := left) (t := z) (x := t) hts).1 hz2).elim (fun h => .inl (HA.out z hz1 h)) .inr)
          have HT := Aside0.mk htE
          clear hlk hhas htE
          by_cases hin : t ∈ S2
          · have hi := ind_in hin
            go_wp2_with (at_lookup; refine wp_num_look rfl _ _ rfl rfl hst3.map t rfl hts ?_)
            go_roundg (gk - 1)
            case measure => omega
            case rel => exact ⟨_, cnt3, S2, T2, hrg3, by omega, hst3, ⟨fun z hz1 hz2 => (HA3.out z hz1 hz2).elim id (fun e => e ▸ hin)⟩, hk2⟩
          · have hi := ind_out hin
            go_wp2_with (first | (at_lookup; refine wp_num_look rfl _ _ rfl rfl hst3.map t rfl hts ?_) | (at_mapUpdate; refine wp_num_put rfl _ _ _ rfl rfl hst3.map (by have := hst3.sl; omega) t rfl hts 1 rfl (by decide) ?_; intro w4 hm4 hg4; have HM4 := Aside0.mk hm4; have HG4 := Aside0.mk hg4; clear hm4 hg4) | (at_builtin; refine wp_app rfl _ _ rfl (w0 := w0) (base := w0.heap.size) (v := u6) t rfl rfl (hst3.row_put HG4.out) (hst3.bel_put HG4.out) (hst3.bel_put HG4.out).size (by have := hst3.tl; have := hst3.sl; omega) ?_; intro v5 w5 hr5 hb5 hg5 hat5; have HR5 := Aside0.mk hr5; have HB5 := Aside0.mk hb5; have HG5 := Aside0.mk hg5; clear hr5 hb5 hg5 hat5))
            go_roundg (gk - 1)
            case measure => omega
            case rel =>
              have hp := hst3.push hin htn (hst3.via HT.out) HM4.out (hst3.row_put HG4.out) HR5.out HB5.out HG5.out
              have hpl := hp.sl
              refine ⟨_, cnt3, S2 ++ [t], T2 ++ [t], hst3.iter_put hrg3 hlow HG4.out HG5.out (hst3.row_put HG4.out) (by omega), by omega, hp, ⟨fun z hz1 hz2 => (HA3.out z hz1 hz2).elim (fun h => by simp [h]) (fun e => by simp [e])⟩, ?_⟩
              rw [List.length_append, List.length_singleton] at hpl ⊢
              rw [List.length_append, List.length_singleton]
              omega
end Go.Proofs.YtcejdokeaoklaaaDoor.PImp

/-! slices.Sorted(maps.Keys(g)): the contracts at this dump (what lay-iter.mjs writes, over plain layings), and in the words of the graph. -/
namespace Go.Proofs
open Go.RowKit Go.Maps Go.Sort Go.Shelf
/-- slices.Sort's two contracts at this dump, at the fence that asks nothing. -/
theorem Tryd.sorts42 (m : Nat) : AnyZ.SortsIn Tryd.prog Tryd.sorted42_ren Fence.wide m :=
  ⟨fun blk off cap ss W hH hblk hsz => callsIn_wide.2 (AnyM.slices_Sort_string Tryd.sort27 blk off cap ss W hH hblk hsz),
   fun p cap W => callsIn_wide.2 (AnyM.slices_Sort_string_none Tryd.sort27 p cap W)⟩

/-- **maps.Keys[scholiast/imports.graph,string,map[string]int], at whatever map, the nil one too:** a function value over ONE NEW BLOCK, which holds the map. -/
theorem Tryd.maps_Keys_43 (mb : Option Nat) (W : World) : CallsIn Fence.wide 5 Tryd.prog 43 #[.map mb] W fun e w' => e = .returned (.func (.func 61) #[] #[.pointer (some ⟨W.heap.size, 0, none⟩)]) ∧ w' = W.alloc (.cells #[.map mb] 60) :=
  AnyZ.keys_in Tryd.keys43 Fence.wide 5 trivial rfl mb W

set_option maxHeartbeats 1000000 in
/-- **slices.Sorted[string] AT WHAT maps.Keys[scholiast/imports.graph,string,map[string]int] HANDED BACK FOR A MAP THAT IS NOT nil** ('w': the world AHEAD of maps.Keys' call): A NEW SLICE THAT HOLDS THE MAP's KEYS, SORTED; nil just where it has none; nothing that lay before has turned. -/
theorem Tryd.slices_Sorted_keys_42_43 {H : Type} (b nn : Nat) (D0 : DataW H) (R : Value → Option (DataW H × List MemPlace)) (w : World) (hown : w.ownsMap Tryd.prog 9 R b nn D0) (hmax : Maps.size D0 ≤ maxLen) (hbytes : Maps.size D0 * 16 ≤ 140737488355328) :
    CallsIn Fence.wide 5 Tryd.prog 42 #[.func (.func 61) #[] #[.pointer (some ⟨w.heap.size, 0, none⟩)]] (w.alloc (.cells #[.map (some b)] 60)) fun e w' => ∃ (v : Value) (ss : List (List UInt8)), e = .returned v ∧ ss.Perm (strKeys D0) ∧
      w'.ownsRow (w.alloc (.cells #[.map (some b)] 60)).heap.size 9 1 v ss.length ((ss.mergeSort (fun x y => decide (x ≤ y))).map encStr) ∧ (v = .slice none 0 0 ↔ ss = []) ∧ Below (w.alloc (.cells #[.map (some b)] 60)).heap.size (w.alloc (.cells #[.map (some b)] 60)) w' := by
  have hbl := hown.lt
  have hseq : SeqGives Fence.wide 2 Tryd.prog 61 #[.pointer (some ⟨w.heap.size, 0, none⟩)] encStr (fun ss => ss.Perm (strKeys D0)) (Maps.size D0) (w.alloc (.cells #[.map (some b)] 60)) :=
    AnyZ.keys_gives (ρ := Tryd.keys43_ren) { Tryd.keys43 with } Fence.wide _ trivial rfl (by omega) w.heap.size b nn D0 _ (by simp) (by simp) (by
      obtain ⟨es, clock, hb, Ft, hs, hD⟩ := hown
      exact ⟨es, clock, (Below.heap_alloc _ _ b hbl).trans hb, Ft, hs, hD⟩)
  exact AnyZ.sorted_in Tryd.sorted42 Fence.wide 5 trivial trivial trivial trivial rfl (by omega) (Tryd.sorts42 _) (enters_of Tryd.func27 (by kernel_rfl) rfl) 61 #[.pointer (some ⟨w.heap.size, 0, none⟩)] trivial (enters_of Tryd.func61 (by kernel_rfl) rfl) _ _ hmax hbytes _ hseq

end Go.Proofs

/-! (graph).order: the walk. -/
set_option linter.unusedVariables false
namespace Go.Proofs.YtcejdokeaoklaaaDoor.PImp
open Go.RowKit Go.Sort Go.Maps Go.Proofs.YtcejdokeaoklaaaDoorW.PrintWords Go.Proofs.YtcejdokeaoklaaaDoorW.PrintLast Go.Proofs.YtcejdokeaoklaaaDoorW.PrintMore
open Go.Proofs.YtcejdokeaoklaaaDoor.Imp
/-! ### plain: what is left -/
theorem contains_dec {α : Type} [DecidableEq α] (d : List α) (f : α) : d.contains f = decide (f ∈ d) := by
  rw [List.contains_eq_mem]
def leftF (nodes d : List ByteArray) : List ByteArray := nodes.filter fun f => !decide (f ∈ d)
theorem mem_leftF {nodes d : List ByteArray} {f : ByteArray} : f ∈ leftF nodes d ↔ f ∈ nodes ∧ f ∉ d := by
  unfold leftF
  rw [List.mem_filter]
  simp
theorem leftF_nil (nodes : List ByteArray) : leftF nodes [] = nodes := by
  unfold leftF
  rw [List.filter_eq_self]
  intro a _
  simp
theorem leftF_nodup {nodes d : List ByteArray} (h : nodes.Nodup) : (leftF nodes d).Nodup := h.filter _
theorem leftF_second (nodes : List ByteArray) (edge : ByteArray → ByteArray → Bool) : second nodes edge = leftF nodes (first nodes edge) := by
  unfold second leftF
  congr 1
  funext f
  rw [contains_dec]
theorem find_left {nodes : List ByteArray} {edge : ByteArray → ByteArray → Bool} {d : List ByteArray} : nodes.find? (ready nodes edge d) = (leftF nodes d).find? (ready nodes edge d) := by
  unfold leftF
  rw [List.find?_filter]
  congr 1
  funext f
  unfold ready
  rw [contains_dec]
  by_cases h : f ∈ d
  · rw [decide_eq_true h]
    simp
  · rw [decide_eq_false h]
    simp only [Bool.not_false, Bool.true_and, true_and]
    exact (Bool.decide_eq_true).symm
theorem erase_filter : ∀ {l : List ByteArray} {i : Nat} (hi : i < l.length), l.Nodup → l.filter (fun f => !decide (f = l[i])) = l.take i ++ l.drop (i + 1)
  | a :: l, 0, hi, hn => by
    obtain ⟨h1, h2⟩ := List.nodup_cons.1 hn
    simp only [List.getElem_cons_zero, List.take_zero, List.nil_append, List.drop_succ_cons, List.drop_zero]
    rw [List.filter_cons_of_neg (by simp), List.filter_eq_self]
    intro x hx
    simp
    exact fun e => h1 (e ▸ hx)
  | a :: l, i + 1, hi, hn => by
    obtain ⟨h1, h2⟩ := List.nodup_cons.1 hn
    have hi' : i < l.length := by simpa using hi
    have ih := erase_filter hi' h2
    simp only [List.getElem_cons_succ, List.take_succ_cons, List.cons_append, List.drop_succ_cons]
    rw [List.filter_cons_of_pos (by simp; exact fun e => h1 (e ▸ List.getElem_mem hi')), ih]
theorem leftF_snoc {nodes d : List ByteArray} (hn : nodes.Nodup) {i : Nat} (hi : i < (leftF nodes d).length) : leftF nodes (d ++ [(leftF nodes d)[i]]) = (leftF nodes d).take i ++ (leftF nodes d).drop (i + 1) := by
  rw [← erase_filter hi (leftF_nodup hn)]
  generalize (leftF nodes d)[i] = f
  unfold leftF
  rw [List.filter_filter]
  congr 1
  funext x
  by_cases h : x = f <;> by_cases h2 : x ∈ d <;> simp [h, h2]
theorem find_at {l : List ByteArray} {p : ByteArray → Bool} {i : Nat} (hi : i < l.length) (h1 : ∀ f ∈ l.take i, p f = false) (h2 : p l[i] = true) : l.find? p = some l[i] := by
  conv => lhs; rw [← List.take_append_drop i l, List.drop_eq_getElem_cons hi]
  rw [List.find?_append, List.find?_eq_none.2 (fun f hf => by rw [h1 f hf]; decide), List.find?_cons_of_pos h2]
  rfl
/-- Where the ordering stands: d is a beginning of what comes out. -/
structure Going (nodes : List ByteArray) (edge : ByteArray → ByteArray → Bool) (d : List ByteArray) : Prop where
  placed : Placed nodes edge d
  rest : first nodes edge = order nodes edge (nodes.length - d.length) d
theorem Going.start (nodes : List ByteArray) (edge : ByteArray → ByteArray → Bool) : Going nodes edge [] := ⟨Placed.nil _ _, rfl⟩
theorem Going.step {nodes : List ByteArray} {edge : ByteArray → ByteArray → Bool} {d : List ByteArray} (h : Going nodes edge d) {i : Nat} (hi : i < (leftF nodes d).length) (h1 : ∀ f ∈ (leftF nodes d).take i, ready nodes edge d f = false) (h2 : ready nodes edge d (leftF nodes d)[i] = true) :
    Going nodes edge (d ++ [(leftF nodes d)[i]]) := by
  have hf := find_at hi h1 h2
  rw [← find_left] at hf
  have hp := h.placed.snoc hf
  refine ⟨hp, ?_⟩
  have hl := hp.length_le
  rw [List.length_append, List.length_singleton] at hl ⊢
  obtain ⟨k, hk⟩ : ∃ k, nodes.length - d.length = k + 1 := ⟨nodes.length - d.length - 1, by omega⟩
  have hr := h.rest
  rw [hk] at hr
  unfold order at hr
  rw [hf] at hr
  rw [hr, show nodes.length - (d.length + 1) = k by omega]
theorem Going.stop {nodes : List ByteArray} {edge : ByteArray → ByteArray → Bool} {d : List ByteArray} (h : Going nodes edge d) (h1 : ∀ f ∈ leftF nodes d, ready nodes edge d f = false) : d = first nodes edge := by
  rw [h.rest]
  refine (order_stop ?_ _).symm
  rw [find_left, List.find?_eq_none]
  intro f hf
  rw [h1 f hf]
  decide
theorem not_ready {nodes : List ByteArray} {edge : ByteArray → ByteArray → Bool} {d : List ByteArray} {f t : ByteArray} (ht : t ∈ nodes) (he : edge f t = true) (hd : t ∉ d) : ready nodes edge d f = false := by
  unfold ready
  rw [Bool.and_eq_false_iff]
  refine .inr ?_
  rw [List.all_eq_false]
  exact ⟨t, ht, by rw [he, contains_dec, decide_eq_false hd]; decide⟩
theorem is_ready {nodes : List ByteArray} {edge : ByteArray → ByteArray → Bool} {d : List ByteArray} {f : ByteArray} (hf : f ∉ d) (h : ∀ t, edge f t = true → t ∈ d) : ready nodes edge d f = true := by
  unfold ready
  rw [Bool.and_eq_true, List.all_eq_true]
  refine ⟨by rw [contains_dec, decide_eq_false hf]; rfl, fun t _ => ?_⟩
  cases e : edge f t
  · rfl
  · rw [contains_dec, decide_eq_true (h t e)]; rfl
/-! ### the keys, sorted -/
theorem sort_of_rising {l ss : List (List UInt8)} (hp : ss.Perm l) (hr : Rising ltL l) : (ss.mergeSort fun x y => decide (x ≤ y)) = l := by
  have hn : ss.Nodup := hp.nodup_iff.2 (rising_nodup ordL hr)
  have hn2 : (ss.mergeSort fun x y => decide (x ≤ y)).Nodup := (List.mergeSort_perm ss _).nodup_iff.2 hn
  have hs := sorted_le ss
  refine rising_ext ordL ?_ hr (fun x => ((List.mergeSort_perm ss _).mem_iff).trans hp.mem_iff)
  unfold Rising
  refine List.Pairwise.imp₂ ?_ hs hn2
  intro a b hab hne
  refine decide_eq_true ?_
  apply Classical.byContradiction
  intro h
  exact hne (List.le_antisymm hab (List.not_lt.1 h))
theorem strKeys_nodes {R : Value → Option (DataW Unit × List MemPlace)} {w : World} {B n : Nat} {D : DataW Unit} {nodes : List ByteArray} (hown : w.ownsMap Tryd.prog 9 R B n D) (hh : ∀ s, Maps.has D (lk s) = decide (s ∈ nodes)) (hr : Rising ltS nodes) : (nodes.map (·.data.toList)).Perm (strKeys D) := by
  obtain ⟨es, hD, hpw, _⟩ := hown.entries law9
  obtain ⟨es', hD', hko⟩ := hown.keysOf
  obtain rfl : es = es' := by rw [hD] at hD'; simpa using hD'
  subst hD
  refine perm_strKeys hpw (fun p hp => by obtain ⟨v, hv⟩ := hko p hp; obtain ⟨x, _, hx, _⟩ := Maps.keyOf_str Tryd.underlying9 hv; exact ⟨x, hx⟩) (rising_nodup ordL (rising_list hr)) (fun x => ?_)
  have := hh (Imp.strOf x)
  rw [show lk (Imp.strOf x) = .string x from rfl] at this
  rw [this]
  simp only [decide_eq_true_eq, List.mem_map]
  constructor
  · rintro ⟨s, hs, rfl⟩
    rw [list_strOf]
    exact hs
  · exact fun h => ⟨_, h, rfl⟩
end Go.Proofs.YtcejdokeaoklaaaDoor.PImp

/-! (graph).order: the walk. -/
set_option linter.unusedVariables false
namespace Go.Proofs.YtcejdokeaoklaaaDoor.PImp
open Go.RowKit Go.Sort Go.Maps Go.Proofs.YtcejdokeaoklaaaDoorW.PrintWords Go.Proofs.YtcejdokeaoklaaaDoorW.PrintLast Go.Proofs.YtcejdokeaoklaaaDoorW.PrintMore
open Go.Proofs.YtcejdokeaoklaaaDoor.Imp
/-- slices.Delete of one, at a row of the call's own. -/
theorem delete_own {w : World} {base : Nat} {v : Value} {L : List ByteArray} {i : Nat} (h : RowS w base v L) (hi : i < L.length) :
    Calls Tryd.prog 44 #[v, .int .i64 (i : Int), .int .i64 ((i : Int) + 1)] w fun e w' => ∃ v', e = .returned v' ∧ v'.ownBlock = v.ownBlock ∧ RowS w' base v' (L.take i ++ L.drop (i + 1)) ∧ w.grownBy w' v.ownBlock := by
  obtain ⟨zs, hzs⟩ : ∃ zs, zs = L.map (·.data.toList) := ⟨_, rfl⟩
  have hzl : zs.length = L.length := by rw [hzs, List.length_map]
  have h' : w.ownsRow base 9 1 v zs.length (zs.map encStr) := by
    have := h
    unfold RowS at this
    rw [encs_map, ← hzs, ← hzl] at this
    exact this
  rcases h'.2 with ⟨rfl, hz⟩ | ⟨g, cap, cur, rfl, hbase, hgb, r1, r2, r3, r4⟩
  · omega
  · have hH : Holds encStr w g 0 zs.toArray := holds_of_block hgb (by simpa using r4)
    have hc := Tryd.slices_Delete_string g 0 cap i (i + 1) zs w hH r1 (by unfold maxLen at r2; omega) (by omega) (by omega)
    rw [show (((i + 1 : Nat) : Int)) = (i : Int) + 1 by omega] at hc
    refine hc.mono fun e w' ⟨he, q, hw⟩ => ?_
    rw [← grow_none (putRow _ _ _ _ _)] at hw
    subst hw
    refine ⟨_, he, rfl, ?_, grownBy_sorted _⟩
    have hlen : (zs.take i ++ zs.drop (i + 1) ++ List.replicate (i + 1 - i) []).length = zs.length := by
      simp only [List.length_append, List.length_take, List.length_drop, List.length_replicate]
      omega
    have ho := ownsRow_sorted (n := q) (os := #[]) hlen hbase hgb r1 r2 r3
    have hs := own_short ho (m := zs.length - 1) (by omega)
    have e2 : L.take i ++ L.drop (i + 1) = (zs.take i ++ zs.drop (i + 1)).map Imp.strOf := by
      rw [List.map_append, List.map_take, List.map_drop, hzs, map_strOf]
    have e3 : (L.take i ++ L.drop (i + 1)).length = zs.length - 1 := by
      simp only [List.length_append, List.length_take, List.length_drop]
      omega
    unfold RowS
    rw [e3, e2, encs_strOf]
    rw [List.map_append (l₁ := zs.take i ++ zs.drop (i + 1)), List.take_append_of_le_length (by simp; omega), List.take_of_length_le (l := (zs.take i ++ zs.drop (i + 1)).map encStr) (by simp; omega)] at hs
    rw [show zs.length - (i + 1 - i) = zs.length - 1 by omega]
    exact hs
/-- Where the ordering stands in memory. -/
structure OSt (w0 : World) (b6 : Nat) (d L : List ByteArray) (v5 v4 : Value) (w : World) : Prop where
  row5 : RowS w w0.heap.size v5 d
  row4 : RowS w w0.heap.size v4 L
  ne : ∀ k, v5.ownBlock = some k → v4.ownBlock ≠ some k
  map : NumMap w b6 d.length (ind d)
  low : w0.heap.size ≤ b6
  bel : Below w0.heap.size w0 w
section
variable {w0 w : World} {b6 : Nat} {d L : List ByteArray} {v5 v4 : Value}
theorem OSt.under (h : OSt w0 b6 d L v5 v4 w) {w' : World} (hb : Below w.heap.size w w') : OSt w0 b6 d L v5 v4 w' := by
  obtain ⟨h1, h2, h3, h4, h5, h6⟩ := h
  exact ⟨h1.below hb, h2.below hb, h3, h4.below hb, h5, h6.trans (hb.mono h6.size)⟩
theorem OSt.iter (h : OSt w0 b6 d L v5 v4 w) {R' : Value → Option (DataW Unit × List MemPlace)} {b r n : Nat} {D : DataW Unit} {left : Lit → Bool} {cnt : Nat} (hr : w.ranges Tryd.prog 9 R' b r n D left cnt) (hlow : w0.heap.size ≤ r) {w' : World} (hg : w.grownBy w' (some r)) : OSt w0 b6 d L v5 v4 w' := by
  obtain ⟨h1, h2, h3, h4, h5, h6⟩ := h
  have hne := row_ne_iter h1 hr
  have hne2 := row_ne_iter h2 hr
  have hm : some b6 ≠ some r := by
    obtain ⟨D', hD, _⟩ := h4
    exact fun e => map_ne_iter hD hr (by injection e)
  exact ⟨h1.kept hg (fun e => hne (by injection e)), h2.kept hg (fun e => hne2 (by injection e)), h3, h4.kept hg hm, h5, h6.grown hg h6.size (fun k e => by injection e with e; omega)⟩
/-- done[f] = 1. -/
theorem OSt.rows_put (h : OSt w0 b6 d L v5 v4 w) {w' : World} (hg : w.grownBy w' (some b6)) : RowS w' w0.heap.size v5 d ∧ RowS w' w0.heap.size v4 L ∧ Below w0.heap.size w0 w' := by
  obtain ⟨h1, h2, h3, ⟨D, hD, _⟩, h5, h6⟩ := h
  have hne := map_ne_row hD h1
  have hne2 := map_ne_row hD h2
  exact ⟨h1.kept hg (fun e => hne (by injection e)), h2.kept hg (fun e => hne2 (by injection e)), h6.grown hg h6.size (fun k e => by cases e; exact h5)⟩
theorem OSt.row4_app (h : OSt w0 b6 d L v5 v4 w) {w3 w4 : World} (hg3 : w.grownBy w3 (some b6)) (hg4 : w3.grownBy w4 v5.ownBlock) : RowS w4 w0.heap.size v4 L := by
  refine World.ownsRow.kept (h.rows_put hg3).2.1 hg4 ?_
  by_cases e : v4.ownBlock = none
  · exact .inl e
  · refine .inr (fun e2 => ?_)
    obtain ⟨k, hk⟩ := Option.ne_none_iff_exists'.1 e
    exact h.ne k (by rw [← e2]; exact hk) hk
theorem row_lt {w : World} {base : Nat} {v : Value} {T : List ByteArray} (h : RowS w base v T) : ∀ k, v.ownBlock = some k → k < w.heap.size := fun k hk => own_lt h k hk
/-- .. and first = append(first, f), left = slices.Delete(left, i, i+1). -/
theorem OSt.placed (h : OSt w0 b6 d L v5 v4 w) {f : ByteArray} {w3 w4 w5 : World} {u5 u4 : Value} {L' : List ByteArray} (hg3 : w.grownBy w3 (some b6)) (hm3 : NumMap w3 b6 (d.length + 1) (fun u => if u = f then 1 else ind d u))
    (hr5 : RowS w4 w0.heap.size u5 (d ++ [f])) (hg4 : w3.grownBy w4 v5.ownBlock) (hb4 : Below w0.heap.size w0 w4) (hat : u5.ownBlock = v5.ownBlock ∨ ∃ b, u5.ownBlock = some b ∧ w3.heap.size ≤ b)
    (hr4 : RowS w5 w0.heap.size u4 L') (hg5 : w4.grownBy w5 v4.ownBlock) (hu : u4.ownBlock = v4.ownBlock) : OSt w0 b6 (d ++ [f]) L' u5 u4 w5 := by
  obtain ⟨k5, k4, kb⟩ := h.rows_put hg3
  have hlt := row_lt k4
  have hne : ∀ k, u5.ownBlock = some k → v4.ownBlock ≠ some k := by
    intro k hk e
    rcases hat with ha | ⟨b, hb, hle⟩
    · exact h.ne k (by rw [← ha]; exact hk) e
    · have := hlt k e
      rw [hb] at hk
      injection hk with hk
      omega
  have hm5 : some b6 ≠ v5.ownBlock := by
    obtain ⟨D, hD, _⟩ := hm3
    exact map_ne_row hD k5
  have hm4 : some b6 ≠ v4.ownBlock := by
    obtain ⟨D, hD, _⟩ := hm3
    exact map_ne_row hD k4
  have k4' : RowS w4 w0.heap.size v4 L := by
    refine World.ownsRow.kept k4 hg4 ?_
    by_cases e : v4.ownBlock = none
    · exact .inl e
    · refine .inr (fun e2 => ?_)
      obtain ⟨k, hk⟩ := Option.ne_none_iff_exists'.1 e
      exact h.ne k (by rw [← e2]; exact hk) hk
  refine ⟨?_, hr4, fun k hk => by rw [hu]; exact hne k hk, ?_, h.low, ?_⟩
  · refine World.ownsRow.kept hr5 hg5 ?_
    by_cases e : u5.ownBlock = none
    · exact .inl e
    · refine .inr (fun e2 => ?_)
      obtain ⟨k, hk⟩ := Option.ne_none_iff_exists'.1 e
      exact hne k hk (by rw [← e2]; exact hk)
  · rw [ind_snoc] at hm3
    have := (hm3.kept hg4 hm5).kept hg5 hm4
    rw [List.length_append, List.length_singleton]
    exact this
  · exact hb4.grown hg5 hb4.size (own_base k4')
end
set_option maxHeartbeats 8000000 in
set_option maxRecDepth 100000 in
theorem order_walk (w0 : World) (B : Nat) (nodes : List ByteArray) (edge : ByteArray → ByteArray → Bool) (hG : GraphAt w0 B nodes edge) (hE : ∀ s t, edge s t = true → t ∈ nodes) (hz : ∀ s ∈ nodes, s.size < 1048577) (hn : nodes.length < 1048577) (hr : Rising ltS nodes) :
    Calls Tryd.prog 31 #[.map (some B)] w0 fun e w' => ∃ v1 v2, e = .returned (.tuple #[v1, v2]) ∧ RowS w' w0.heap.size v1 (first nodes edge) ∧ RowS w' w0.heap.size v2 (second nodes edge) ∧ (∀ k, v1.ownBlock = some k → v2.ownBlock ≠ some k) ∧ Below w0.heap.size w0 w' := by
  have hmm := @run_makeMap Tryd.prog
  obtain ⟨nG, D, hD0, hD2, hD3⟩ := hG
  have hsz : Maps.size D ≤ 1048577 := by
    have h1 := (strKeys_nodes hD0 hD2 hr).length_eq
    rw [List.length_map] at h1
    obtain ⟨es, hD⟩ := hD0.isMap
    subst hD
    have : Maps.size (DataW.map es) = (strKeys (DataW.map es)).length := by simp [Maps.size, strKeys]
    omega
  have kK : Calls Tryd.prog 43 #[.map (some B)] w0 fun e w' => e = .returned (.func (.func 61) #[] #[.pointer (some ⟨w0.heap.size, 0, none⟩)]) ∧ w' = w0.alloc (.cells #[.map (some B)] 60) := callsIn_wide.1 (Tryd.maps_Keys_43 (some B) w0)
  have kS : Calls Tryd.prog 42 #[.func (.func 61) #[] #[.pointer (some ⟨w0.heap.size, 0, none⟩)]] (w0.alloc (.cells #[.map (some B)] 60)) fun e w' => ∃ v, e = .returned v ∧ RowS w' w0.heap.size v nodes ∧ Below w0.heap.size w0 w' := by
    refine (callsIn_wide.1 (Tryd.slices_Sorted_keys_42_43 B nG D _ w0 hD0 (by unfold maxLen; omega) (by omega))).mono ?_
    rintro e w' ⟨v, ss, he, hp, hown, _, hb⟩
    have hs := sort_of_rising (hp.trans (strKeys_nodes hD0 hD2 hr).symm) (rising_list hr)
    rw [hs] at hown
    have hl : ss.length = nodes.length := by rw [(hp.trans (strKeys_nodes hD0 hD2 hr).symm).length_eq, List.length_map]
    refine ⟨v, he, ?_, ((Below.refl _ w0).alloc (Nat.le_refl _) _).trans (hb.mono (by simp))⟩
    unfold RowS
    rw [encs_map, ← hl]
    exact own_weaken hown (by simp)
  clear hsz hD2
  go_enter Tryd.func31, Tryd.ntmps31
  go_wp2
  go_step3
  go_wp2_with (first | (go_at_call 43; refine kK.mono ?_; rintro e w' ⟨rfl, rfl⟩) | (go_at_call 42; refine kS.mono ?_; rintro e w1 ⟨v4, rfl, hrow, hbel⟩; have HR := Aside0.mk hrow; have HB := Aside0.mk hbel; clear hrow hbel))
  go_step3
  go_wp2
  have hst0 : OSt w0 w1.heap.size [] nodes (.slice none 0 0) v4 (w1.alloc (.map #[] 0)) := by
    have hm := NumMap.made w1
    rw [ind_nil] at hm
    exact ⟨by unfold RowS; exact own_nil _ _ _ _, HR.out.below (below_alloc (Below.refl _ _) _), fun k hk => by simp [Value.ownBlock] at hk, hm, HB.out.size, below_alloc HB.out _⟩
  go_loopg [4, 5] nodes.length (fun kq v4 v5 w' => ∃ d, Going nodes edge d ∧ OSt w0 w1.heap.size d (leftF nodes d) v5 v4 w' ∧ d.length + kq = nodes.length)
  case atStart => exact ⟨[], Going.start _ _, by rw [leftF_nil]; exact hst0, by simp⟩
  case round =>
    clear hst0 HR kK kS
    obtain ⟨d, hgo, hst, hk⟩ := hrel
    obtain ⟨m0, rfl⟩ : ∃ m0, m0 = gk := ⟨_, rfl⟩
    obtain ⟨wo, rfl⟩ : ∃ wo : World, wo = wr := ⟨_, rfl⟩
    obtain ⟨V5, rfl⟩ : ∃ V5, V5 = u5 := ⟨_, rfl⟩
    obtain ⟨L, hL⟩ : ∃ L, L = leftF nodes d := ⟨_, rfl⟩
    rw [← hL] at hst
    have HL := Aside0.mk hL
    clear hL
    obtain ⟨A, c, hv, hcl, hC⟩ := Kd.R_reads hst.row4.to_R
    subst hv
    have hLn : L.length ≤ nodes.length := by
      rw [HL.out]
      exact List.length_filter_le _ _
    clear hC
    go_wp2
    go_step3
    go_wp2
    go_step3
    go_wp2
    go_loopg [4, 5, 16] L.length (fun kq v4 v5 v16 w' => ∃ (i : Nat), v4 = .slice A L.length c ∧ v5 = V5 ∧ v16 = .int .i64 (i : Int) ∧ i + kq = L.length ∧ OSt w0 w1.heap.size d L V5 (.slice A L.length c) w' ∧ Aside0 (∀ f ∈ L.take i, ready nodes edge d f = false))
    case atStart => exact ⟨0, rfl, rfl, rfl, by omega, hst, ⟨by simp⟩⟩
    case round =>
      clear hst
      obtain ⟨i, rfl, h5, rfl, hi, hst, HA⟩ := hrel
      have h5' := h5.symm
      clear h5
      subst h5'
      obtain ⟨m1, rfl⟩ : ∃ m1, m1 = gk := ⟨_, rfl⟩
      obtain ⟨wp, rfl⟩ : ∃ wp : World, wp = wr := ⟨_, rfl⟩
      by_cases hlt : i < L.length
      · have hb0 : decide ((i : Int) < (L.length : Int)) = true := decide_eq_true (by omega)
        obtain ⟨A', c', hv, _, hC⟩ := Kd.R_reads hst.row4.to_R
        obtain ⟨ad, e1, hx⟩ := Kd.at_string hC (i : Int) (by omega) (by omega)
        injection hv with hv1 hv2 hv3
        subst hv1
        cases e1
        clear hC hv2 hv3
        rw [rdOf_get hlt] at hx
        simp only [Int.toNat_natCast] at hx
        have hm := (mem_leftF (nodes := nodes) (d := d)).1 (by rw [← HL.out]; exact List.getElem_mem hlt)
        obtain ⟨f, hf⟩ : ∃ f, f = L[i] := ⟨_, rfl⟩
        rw [← hf] at hx hm
        have HF := Aside0.mk hf
        clear hf
        have hfs := hz f hm.1
        obtain ⟨b, n', D', e1, e20, e3⟩ := hD3 f hm.1
        have hbl := e20.lt
        have hD1 := ownsMap_below hD0 hst.bel
        have e2 := ownsMap_below e20 hst.bel
        have HE := Aside0.mk e1
        have HK := Aside0.mk e3
        have HM := Aside0.mk hm
        have HWr := Aside0.mk (wrap_id (x := (i : Int) + 1) (by omega) (by omega))
        have p0 : 0 ≤ (i : Int) := by omega
        have q0 : (i : Int) < (L.length : Int) := by omega
        have hlow : w0.heap.size ≤ wp.heap.size := hst.bel.size
        clear e1 e20 e3 hm
        go_wp2_with (first | (at_lookup; refine wp_map_look rfl _ _ rfl rfl hD1 f rfl hfs HE.out ?_) | (at_range; refine wp_key_range rfl _ rfl rfl e2 ?_; intro w2 hrg hg1 hs1; clear hs1))
        try go_frame
        have hst2 := hst.under ((Below.refl _ _).grown hg1 (Nat.le_refl _) (by simp))
        go_loopg [9] (Maps.size D') (fun kq v9 w' => ∃ left cnt, w'.ranges Tryd.prog 9 (plainElem Tryd.prog 3) b wp.heap.size n' D' left cnt ∧ cnt ≤ kq ∧ OSt w0 w1.heap.size d L V5 (.slice (some ad) L.length c) w' ∧ Aside0 (∀ z, edge f z = true → left (lk z) = false → z ∈ d))
        case atStart => exact ⟨_, _, hrg, Nat.le_refl _, hst2, ⟨fun z hz hl => by rw [HK.out, hz] at hl; cases hl⟩⟩
        case round =>
          clear hst2 hst hrg hx hg1 hD1 e2 HE
          obtain ⟨left, cnt, hrg2, hc, hst2, HA2⟩ := hrel
          go_wp2_with (at_next; refine wp_key_next rfl _ rfl rfl hrg2 ?_ ?_)
          · intro hl0
            have HL0 := Aside0.mk hl0
            clear hl0
            have hw := HWr.out
            have hnd : f ∉ d := HM.out.2
            go_wp2_with (first | (at_mapUpdate; refine wp_num_put rfl _ _ _ rfl rfl hst2.map (by have := hgo.placed.length_le; omega) f rfl hfs 1 rfl (by decide) ?_; intro w4 hm4 hg4; have HM4 := Aside0.mk hm4; have HG4 := Aside0.mk hg4; clear hm4 hg4) | (at_builtin; refine wp_app rfl _ _ rfl (w0 := w0) (base := w0.heap.size) (v := V5) f rfl rfl (hst2.rows_put HG4.out).1 (hst2.rows_put HG4.out).2.2 (hst2.rows_put HG4.out).2.2.size (by have := hgo.placed.length_le; omega) ?_; intro v5 w5 hr5 hb5 hg5 hat5; have HR5 := Aside0.mk hr5; have HB5 := Aside0.mk hb5; have HG5 := Aside0.mk hg5; have HT5 := Aside0.mk hat5; clear hr5 hb5 hg5 hat5) | (go_at_call 44; refine (delete_own (hst2.row4_app HG4.out HG5.out) hlt).mono ?_; rintro e w6 ⟨v6, rfl, hu6, hr6, hg6⟩; have HU6 := Aside0.mk hu6; have HR6 := Aside0.mk hr6; have HG6 := Aside0.mk hg6; clear hu6 hr6 hg6))
            clear hw
            have hF := HF.out
            have hi' : i < (leftF nodes d).length := by rw [← HL.out]; exact hlt
            have e1 : (leftF nodes d)[i] = f := by rw [hF]; congr 1; exact HL.out.symm
            have hLf : leftF nodes (d ++ [f]) = L.take i ++ L.drop (i + 1) := by
              have := leftF_snoc (rising_nodup ordS hr) hi'
              rw [e1, ← HL.out] at this
              exact this
            have hgo2 : Going nodes edge (d ++ [f]) := by
              have := hgo.step hi' (by rw [← HL.out]; exact HA.out) (by rw [e1]; exact is_ready hnd (fun z hz => HA2.out z hz (HL0.out z)))
              rw [e1] at this
              exact this
            have hpl := hgo2.placed.length_le
            rw [List.length_append, List.length_singleton] at hpl
            have HLF := Aside0.mk hLf
            clear hLf hF e1 hi'
            rw [Exit.noGoto_exit]
            go_wp2
            go_roundg (m0 - 1)
            case measure => omega
            case rel =>
              refine ⟨d ++ [f], hgo2, ?_, by rw [List.length_append, List.length_singleton]; omega⟩
              rw [HLF.out]
              exact hst2.placed HG4.out HM4.out HR5.out HG5.out HB5.out HT5.out HR6.out HG6.out HU6.out
          · intro t c1 w3 cnt3 hlk hhas hrg3 hlt3 hg3 hen
            have hst3 := hst2.iter hrg2 hlow hg3
            have htE : edge f t = true := by rw [← HK.out t]; exact hhas
            have htn := hE f t htE
            have hts := hz t htn
            have HA3 := Aside0.mk (show ∀ z, edge f z = true → (left (lk z) && !(lk z).sameKey (lk t)) = false → z ∈ d ∨ z = t from fun z hz1 hz2 => ((left_struck (left := left) (t := z) (x := t) hts).1 hz2).elim (fun h => .inl (HA2.out z hz1 h)) .inr)
            have HT := Aside0.mk htE
            clear hlk hhas htE
            by_cases hin : t ∈ d
            · have hi1 := ind_in hin
              go_wp2_with (at_lookup; refine wp_num_look rfl _ _ rfl rfl hst3.map t rfl hts ?_)
              go_roundg (gk - 1)
              case measure => omega
              case rel => exact ⟨_, cnt3, hrg3, by omega, hst3, ⟨fun z hz1 hz2 => (HA3.out z hz1 hz2).elim id (fun e => e ▸ hin)⟩⟩
            · have hi1 := ind_out hin
              go_wp2_with (at_lookup; refine wp_num_look rfl _ _ rfl rfl hst3.map t rfl hts ?_)
              go_roundg (m1 - 1)
              case measure => omega
              case rel =>
                refine ⟨i + 1, rfl, rfl, by go_num, by omega, hst3, ⟨fun g hg => ?_⟩⟩
                rw [List.take_succ_eq_append_getElem hlt, List.mem_append, List.mem_singleton] at hg
                rcases hg with hg | hg
                · exact HA.out g hg
                · rw [hg, ← HF.out]
                  exact not_ready htn HT.out hin
      · have hb0 : decide ((i : Int) < (L.length : Int)) = false := decide_eq_false (by omega)
        go_wp2
        rw [Exit.noGoto_ret]
        go_wp2
        rw [Exit.noGoto_ret]
        go_ret2
        have hd : d = first nodes edge := hgo.stop (by rw [← HL.out]; have := HA.out; rw [List.take_of_length_le (by omega)] at this; exact this)
        refine ⟨_, _, rfl, ?_, ?_, hst.ne, hst.bel⟩
        · rw [← hd]
          exact hst.row5
        · rw [leftF_second, ← hd, ← HL.out]
          exact hst.row4
end Go.Proofs.YtcejdokeaoklaaaDoor.PImp

/-! imports.made: the graph while it is built; what is right, and who imports whom. -/
set_option linter.unusedVariables false
namespace Go.Proofs.YtcejdokeaoklaaaDoor.PImp
open Go.RowKit Go.Sort Go.Maps Go.Proofs.YtcejdokeaoklaaaDoorW.PrintWords Go.Proofs.YtcejdokeaoklaaaDoorW.PrintLast Go.Proofs.YtcejdokeaoklaaaDoorW.PrintMore
open Go.Proofs.YtcejdokeaoklaaaDoor.Imp
instance decPair (p : ByteArray × ByteArray) (l : List (ByteArray × ByteArray)) : Decidable (p ∈ l) := @List.instDecidableMemOfLawfulBEq _ instBEqOfDecidableEq inferInstance p l
def risingB : List ByteArray → Bool
  | a :: b :: l => ltS a b && risingB (b :: l)
  | _ => true
theorem risingB_iff : ∀ {l : List ByteArray}, risingB l = true ↔ Rising ltS l
  | [] => by simp [risingB, Rising]
  | [a] => by simp [risingB, Rising]
  | a :: b :: l => by
    unfold risingB Rising
    rw [Bool.and_eq_true, risingB_iff, List.pairwise_cons]
    constructor
    · rintro ⟨h1, h2⟩
      refine ⟨fun x hx => ?_, h2⟩
      rcases List.mem_cons.1 hx with rfl | hx
      · exact h1
      · exact ordS.tr _ _ _ h1 ((List.pairwise_cons.1 h2).1 x hx)
    · rintro ⟨h1, h2⟩
      exact ⟨h1 b (by simp), h2⟩
/-- Each is ahead of the next. -/
theorem risingB_get {l : List ByteArray} (h : ∀ i (hi : i + 1 < l.length), ltS l[i] l[i + 1] = true) : risingB l = true := by
  induction l with
  | nil => rfl
  | cons a l ih =>
    cases l with
    | nil => rfl
    | cons b l =>
      unfold risingB
      rw [Bool.and_eq_true]
      exact ⟨h 0 (by simp), ih (fun i hi => h (i + 1) (by simp at hi ⊢; omega))⟩
theorem risingB_not {l : List ByteArray} {i : Nat} (hi : i + 1 < l.length) (h : ltS l[i] l[i + 1] = false) : risingB l = false := by
  cases e : risingB l
  · rfl
  · have := List.pairwise_iff_getElem.1 (risingB_iff.1 e) i (i + 1) (by omega) hi (by omega)
    rw [h] at this
    cases this
/-- May they be asked of? -/
def rightF (l0 : List ByteArray) (l1 : List S46) : Int := if l0.length ≠ l1.length then 1 else if l0.all okN = false then 130 else if risingB l0 = true then 0 else 1
def pairsOf (p : ByteArray × S46) : List (ByteArray × ByteArray) := p.2.f1.map fun m => (folderF p.1, m.f1)
def allPairs (l : List (ByteArray × S46)) : List (ByteArray × ByteArray) := l.flatMap pairsOf
def edgeE (F : List ByteArray) (E : List (ByteArray × ByteArray)) (s t : ByteArray) : Bool := decide ((s, t) ∈ E) && decide (t ∈ F)
/-- WHO IMPORTS WHOM. -/
def edgeF (l0 : List ByteArray) (l1 : List S46) : ByteArray → ByteArray → Bool := edgeE (foldersF l0) (allPairs (l0.zip l1))
theorem edgeE_out {F : List ByteArray} {E : List (ByteArray × ByteArray)} {f p : ByteArray} (h : p ∉ F) : edgeE F (E ++ [(f, p)]) = edgeE F E := by
  funext s t
  unfold edgeE
  by_cases ht : t ∈ F
  · congr 1
    rw [decide_eq_decide, List.mem_append, List.mem_singleton]
    refine ⟨fun h' => h'.elim id (fun e => ?_), .inl⟩
    rw [Prod.mk.injEq] at e
    exact absurd (e.2 ▸ ht) h
  · rw [decide_eq_false ht, Bool.and_false, Bool.and_false]
theorem edgeE_in {F : List ByteArray} {E : List (ByteArray × ByteArray)} {f p : ByteArray} (h : p ∈ F) (s t : ByteArray) : edgeE F (E ++ [(f, p)]) s t = if s = f ∧ t = p then true else edgeE F E s t := by
  unfold edgeE
  by_cases e : s = f ∧ t = p
  · rw [if_pos e, decide_eq_true (by rw [e.1, e.2]; simp), decide_eq_true (by rw [e.2]; exact h)]
    rfl
  · rw [if_neg e]
    congr 1
    rw [decide_eq_decide, List.mem_append, List.mem_singleton, Prod.mk.injEq]
    exact ⟨fun h' => h'.resolve_right e, .inl⟩
theorem folderF_size (s : ByteArray) : (folderF s).size ≤ s.size := by
  unfold folderF splitF
  split
  · rw [ByteArray.size_extract]
    omega
  · exact Nat.zero_le _
theorem foldersF_small {l : List ByteArray} (h : ∀ s ∈ l, s.size < 1048577) : ∀ x ∈ foldersF l, x.size < 1048577 := by
  intro x hx
  obtain ⟨s, hs, _, rfl⟩ := (mem_foldersF l x).1 hx
  have := folderF_size s
  have := h s hs
  omega
/-! ### the graph while it is built -/
structure GrB (w0 : World) (B n : Nat) (D : DataW Unit) (nodes : List ByteArray) (edge : ByteArray → ByteArray → Bool) (cap : Nat) (w : World) : Prop where
  own : w.ownsMap Tryd.prog 9 mapElem B n D
  has : ∀ s, Maps.has D (lk s) = decide (s ∈ nodes)
  low : w0.heap.size ≤ B
  el : ∀ s ∈ nodes, ∃ (b n' : Nat) (D' : DataW Unit), D.atKey (lk s) (.lit (.int .i64 (-1))) = .lit (.int .i64 (b : Int)) ∧ b ≠ B ∧ w0.heap.size ≤ b ∧ w.ownsMap Tryd.prog 9 (plainElem Tryd.prog 3) b n' D' ∧ n' ≤ cap ∧ ∀ t, Maps.has D' (lk t) = edge s t
  inj : ∀ s ∈ nodes, ∀ t ∈ nodes, D.atKey (lk s) (.lit (.int .i64 (-1))) = D.atKey (lk t) (.lit (.int .i64 (-1))) → s = t
  bel : Below w0.heap.size w0 w
section
variable {w0 w : World} {B n : Nat} {D : DataW Unit} {nodes : List ByteArray} {edge : ByteArray → ByteArray → Bool} {cap : Nat}
theorem GrB.start (w0 : World) : GrB w0 w0.heap.size 0 (.map []) [] (fun _ _ => false) 0 (w0.alloc (.map #[] 0)) :=
  ⟨World.ownsMap_made _ _ _ _, fun s => by simp [Maps.has], Nat.le_refl _, by simp, by simp, (Below.refl _ _).alloc (Nat.le_refl _) _⟩
theorem GrB.under (h : GrB w0 B n D nodes edge cap w) {w' : World} (hb : Below w.heap.size w w') : GrB w0 B n D nodes edge cap w' := by
  obtain ⟨h1, h2, h3, h4, h5, h6⟩ := h
  refine ⟨ownsMap_below h1 hb, h2, h3, fun s hs => ?_, h5, h6.trans (hb.mono h6.size)⟩
  obtain ⟨b, n', D', e1, e2, e3, e4, e5⟩ := h4 s hs
  exact ⟨b, n', D', e1, e2, e3, ownsMap_below e4 hb, e5⟩
theorem GrB.mono (h : GrB w0 B n D nodes edge cap w) {cap' : Nat} (hc : cap ≤ cap') : GrB w0 B n D nodes edge cap' w := by
  obtain ⟨h1, h2, h3, h4, h5, h6⟩ := h
  refine ⟨h1, h2, h3, fun s hs => ?_, h5, h6⟩
  obtain ⟨b, n', D', e1, e2, e3, e4, e5, e6⟩ := h4 s hs
  exact ⟨b, n', D', e1, e2, e3, e4, by omega, e6⟩
theorem GrB.graph (h : GrB w0 B n D nodes edge cap w) : GraphAt w B nodes edge := by
  obtain ⟨h1, h2, h3, h4, h5, h6⟩ := h
  refine ⟨n, D, h1, h2, fun s hs => ?_⟩
  obtain ⟨b, n', D', e1, e2, e3, e4, _, e6⟩ := h4 s hs
  exact ⟨b, n', D', e1, e4, e6⟩
/-- g[f] = map[string]int{}: behind the new map's laying, and the store. -/
theorem GrB.new (h : GrB w0 B n D nodes (fun _ _ => false) cap w) {f : ByteArray} (hf : f.size < 1048577) (hz : ∀ s ∈ nodes, s.size < 1048577) {nodes' : List ByteArray} (hn : ∀ s, s ∈ nodes' ↔ s = f ∨ s ∈ nodes) {w' : World}
    (ho : w'.ownsMap Tryd.prog 9 mapElem B (n + 1) (D.put (lk f) (.lit (.int .i64 (w.heap.size : Int))))) (hg : (w.alloc (.map #[] 0)).grownBy w' (some B)) : GrB w0 B (n + 1) (D.put (lk f) (.lit (.int .i64 (w.heap.size : Int)))) nodes' (fun _ _ => false) cap w' := by
  obtain ⟨h1, h2, h3, h4, h5, h6⟩ := h
  have hm := h1.isMap
  have hBl := h1.lt
  have hat : ∀ s, (D.put (lk f) (.lit (.int .i64 (w.heap.size : Int)))).atKey (lk s) (.lit (.int .i64 (-1))) = if s = f then .lit (.int .i64 (w.heap.size : Int)) else D.atKey (lk s) (.lit (.int .i64 (-1))) := by
    intro s
    by_cases e : s = f
    · rw [if_pos e, e, atKey_put_same hm (lk_key hf)]
    · rw [if_neg e, atKey_put_other (fun he => e (lk_inj he))]
  have hlt : ∀ s ∈ nodes, ∀ b : Nat, D.atKey (lk s) (.lit (.int .i64 (-1))) = .lit (.int .i64 (b : Int)) → b < w.heap.size := by
    intro s hs b hb
    obtain ⟨b', n', D', e1, _, _, e4, _⟩ := h4 s hs
    rw [e1] at hb
    simp only [DataW.lit.injEq, Lit.int.injEq, true_and] at hb
    have := e4.lt
    omega
  refine ⟨ho, fun s => ?_, h3, fun s hs => ?_, fun s hs t ht he => ?_, (h6.alloc h6.size _).grown hg (by simp; have := h6.size; omega) (fun k e => by cases e; exact h3)⟩
  · by_cases e : s = f
    · subst e
      rw [has_put_same hm (lk_key hf), decide_eq_true ((hn s).2 (.inl rfl))]
    · rw [has_put_other (fun he => e (lk_inj he)), h2, decide_eq_decide, hn]
      exact ⟨.inr, fun h => h.resolve_left e⟩
  · by_cases e : s = f
    · refine ⟨w.heap.size, 0, .map [], by rw [hat, if_pos e], by omega, h6.size, (World.ownsMap_made w Tryd.prog 9 _).kept hg (by simp; omega), Nat.zero_le _, fun t => rfl⟩
    · obtain ⟨b, n', D', e1, e2, e3, e4, e5, e6⟩ := h4 s (((hn s).1 hs).resolve_left e)
      exact ⟨b, n', D', by rw [hat, if_neg e, e1], e2, e3, (e4.alloc _).kept hg (by simpa using e2), e5, e6⟩
  · rw [hat, hat] at he
    by_cases e1 : s = f <;> by_cases e2 : t = f
    · rw [e1, e2]
    · rw [if_pos e1, if_neg e2] at he
      have := hlt t (((hn t).1 ht).resolve_left e2) _ he.symm
      omega
    · rw [if_neg e1, if_pos e2] at he
      have := hlt s (((hn s).1 hs).resolve_left e1) _ he
      omega
    · rw [if_neg e1, if_neg e2] at he
      exact h5 s (((hn s).1 hs).resolve_left e1) t (((hn t).1 ht).resolve_left e2) he
/-- g[f][p] = 1. -/
theorem GrB.put (h : GrB w0 B n D nodes edge cap w) {f p : ByteArray} (hf : f ∈ nodes) (hp : p.size < 1048577) {b n' : Nat} {D' : DataW Unit} (hb : D.atKey (lk f) (.lit (.int .i64 (-1))) = .lit (.int .i64 (b : Int))) (hlow : w0.heap.size ≤ b) (hB : b ≠ B) (hnc : n' ≤ cap)
    (hk : ∀ t, Maps.has D' (lk t) = edge f t) (hm : IsMap D') {edge' : ByteArray → ByteArray → Bool} (he : ∀ s t, edge' s t = if s = f ∧ t = p then true else edge s t) {w' : World} {c : DataW Unit}
    (ho : w'.ownsMap Tryd.prog 9 (plainElem Tryd.prog 3) b (n' + 1) (D'.put (lk p) c)) (hg : w.grownBy w' (some b)) : GrB w0 B n D nodes edge' (cap + 1) w' := by
  obtain ⟨h1, h2, h3, h4, h5, h6⟩ := h
  refine ⟨h1.kept hg (by simpa using fun e => hB e.symm), h2, h3, fun s hs => ?_, h5, h6.grown hg h6.size (fun k e => by cases e; exact hlow)⟩
  by_cases e : s = f
  · subst e
    refine ⟨b, n' + 1, _, hb, hB, hlow, ho, by omega, fun t => ?_⟩
    rw [he]
    by_cases et : t = p
    · subst et
      rw [has_put_same hm (lk_key hp), if_pos ⟨rfl, rfl⟩]
    · rw [has_put_other (fun h => et (lk_inj h)), hk, if_neg (fun h => et h.2)]
  · obtain ⟨b', n'', D'', e1, e2, e3, e4, e5, e6⟩ := h4 s hs
    have hne : b' ≠ b := by
      intro eb
      exact e (h5 s hs f hf (by rw [e1, hb, eb]))
    refine ⟨b', n'', D'', e1, e2, e3, e4.kept hg (by simpa using hne), by omega, fun t => ?_⟩
    rw [he, if_neg (fun h => e h.1), e6]
end
end Go.Proofs.YtcejdokeaoklaaaDoor.PImp

/-! imports.made: the walk. -/
set_option linter.unusedVariables false
namespace Go.Proofs.YtcejdokeaoklaaaDoor.PImp
open Go.RowKit Go.Sort Go.Maps Go.Proofs.YtcejdokeaoklaaaDoorW.PrintWords Go.Proofs.YtcejdokeaoklaaaDoorW.PrintLast Go.Proofs.YtcejdokeaoklaaaDoorW.PrintMore
open Go.Proofs.YtcejdokeaoklaaaDoor.Imp
theorem geq_str (t : TypeId) (a b : ByteArray) : binOp .geq t (.string a) (.string b) = pure (.bool (!(Op.bytesLess a.toList b.toList))) := by simp [binOp, Op.stringOp]
attribute [local go_sem] geq_str
theorem rightF_one {l0 : List ByteArray} {l1 : List S46} (h : l0.length ≠ l1.length) : rightF l0 l1 = 1 := if_pos h
theorem rightF_bad {l0 : List ByteArray} {l1 : List S46} (h : l0.length = l1.length) {i : Nat} (hi : i < l0.length) (hb : okN l0[i] = false) : rightF l0 l1 = 130 := by
  unfold rightF
  rw [if_neg (fun e => e h), if_pos]
  rw [List.all_eq_false]
  exact ⟨_, List.getElem_mem hi, by rw [hb]; decide⟩
theorem rightF_low {l0 : List ByteArray} {l1 : List S46} (h : l0.length = l1.length) (ho : ∀ s ∈ l0, okN s = true) (hr : risingB l0 = false) : rightF l0 l1 = 1 := by
  unfold rightF
  rw [if_neg (fun e => e h), if_neg (by rw [List.all_eq_true.2 ho]; decide), if_neg (by rw [hr]; decide)]
theorem rightF_ok {l0 : List ByteArray} {l1 : List S46} (h : l0.length = l1.length) (ho : ∀ s ∈ l0, okN s = true) (hr : risingB l0 = true) : rightF l0 l1 = 0 := by
  unfold rightF
  rw [if_neg (fun e => e h), if_neg (by rw [List.all_eq_true.2 ho]; decide), if_pos hr]
theorem rd46 {l : List S46} {i : Nat} (h : i < l.length) : rd_T46 l (i : Int) = l[i] := by simp [rd_T46, List.getD, h]
theorem rd48 {l : List S48} {i : Nat} (h : i < l.length) : rd_T48 l (i : Int) = l[i] := by simp [rd_T48, List.getD, h]
theorem edgeE_nil (F : List ByteArray) : edgeE F [] = fun _ _ => false := by
  funext s t
  unfold edgeE
  rw [decide_eq_false (by simp)]
  rfl
theorem allPairs_next {l : List (ByteArray × S46)} {i : Nat} (h : i < l.length) : allPairs (l.take (i + 1)) = allPairs (l.take i) ++ pairsOf l[i] := by
  unfold allPairs
  rw [List.take_succ_eq_append_getElem h, List.flatMap_append]
  simp
theorem allPairs_le {l : List (ByteArray × S46)} {i : Nat} (h : i < l.length) : (allPairs (l.take i)).length + (pairsOf l[i]).length ≤ (allPairs l).length := by
  have : l = l.take i ++ l[i] :: l.drop (i + 1) := by rw [← List.drop_eq_getElem_cons h, List.take_append_drop]
  conv => rhs; rw [this]
  unfold allPairs
  rw [List.flatMap_append, List.flatMap_cons]
  simp only [List.length_append]
  omega
/-- What made answers. -/
def MadeOk (w0 : World) (l0 : List ByteArray) (l1 : List S46) (v : Value) (w' : World) : Prop := Below w0.heap.size w0 w' ∧ (rightF l0 l1 = 0 → ∃ B, v = .map (some B) ∧ GraphAt w' B (foldersF l0) (edgeF l0 l1))
set_option maxHeartbeats 8000000 in
set_option maxRecDepth 100000 in
theorem made_walk (A0 : Option Addr) (c0 : Nat) (l0 : List ByteArray) (A1 : Option Addr) (c1 : Nat) (l1 : List S46) (w0 : World) (hr0 : Kd.C Kd.string w0 A0 l0.length l0) (hr1 : Kd.C k46 w0 A1 l1.length l1)
    (hl : l0.length < 1048577) (hs : ∀ s ∈ l0, s.size < 1048577) (hp : ∀ o ∈ l1, ∀ m ∈ o.f1, m.f1.size < 1048577) (hT : (allPairs (l0.zip l1)).length < 1048577) :
    Calls Tryd.prog 30 #[.slice A0 l0.length c0, .slice A1 l1.length c1] w0 fun e w' => ∃ v, e = .returned (.tuple #[v, .int .i64 (rightF l0 l1)]) ∧ MadeOk w0 l0 l1 v w' := by
  have HR0 := Aside0.mk hr0
  have HR1 := Aside0.mk hr1
  have hmm := @run_makeMap Tryd.prog
  clear hr0 hr1
  by_cases hll : l0.length = l1.length
  · have HLL := Aside0.mk hll
    have hb0 : ((l0.length : Int) != (l1.length : Int)) = false := by rw [hll]; simp
    have hg0 := GrB.start w0
    clear hll
    go_enter Tryd.func30, Tryd.ntmps30
    go_wp2
    go_loopg [30] l0.length (fun kq v30 w' => ∃ (i n : Nat) (D : DataW Unit), v30 = .int .i64 (i : Int) ∧ i + kq = l0.length ∧ n ≤ i ∧ GrB w0 w0.heap.size n D (foldersF (l0.take i)) (fun _ _ => false) 0 w' ∧ Aside0 (∀ s ∈ l0.take i, okN s = true))
    case atStart => exact ⟨0, 0, _, rfl, by omega, Nat.le_refl _, hg0, ⟨by simp⟩⟩
    case round =>
      clear hg0
      obtain ⟨i, n, D, rfl, hk, hn, hg, HO⟩ := hrel
      by_cases hi : i < l0.length
      · have hb1 : decide ((i : Int) < (l0.length : Int)) = true := decide_eq_true (by omega)
        obtain ⟨ad, e1, hx⟩ := Kd.at_string (Kd.C_below HR0.out hg.bel) (i : Int) (by omega) (by omega)
        cases e1
        rw [rdOf_get hi] at hx
        simp only [Int.toNat_natCast] at hx
        have hsz := hs l0[i] (List.getElem_mem hi)
        have HN := Aside0.mk (foldersF_next hi)
        have HF := Aside0.mk (show ∀ s ∈ foldersF (l0.take i), s.size < 1048577 from foldersF_small (fun s h => hs s (List.mem_of_mem_take h)))
        have p0 : 0 ≤ (i : Int) := by omega
        have q0 : (i : Int) < (l0.length : Int) := by omega
        cases ho : okN l0[i]
        · have HB := Aside0.mk (rightF_bad HLL.out hi ho)
          go_wp2_with (go_at_call 8; refine (split_no _ _ hsz ho).mono ?_; rintro e w1 ⟨rfl, hb⟩; have HB1 := Aside0.mk hb; clear hb)
          go_ret2
          refine ⟨_, by rw [HB.out]; rfl, (hg.under HB1.out).bel, fun h => ?_⟩
          rw [HB.out] at h
          cases h
        · have HS := Aside0.mk ho
          have hfz : (folderF l0[i]).size < 1048577 := by have := folderF_size l0[i]; omega
          have HL := Aside0.mk (rfl : l0[i] = l0[i])
          go_wp2_with (first | (go_at_call 8; refine (split_yes _ _ hsz ho).mono ?_; rintro e w1 ⟨rfl, hb⟩; have HB1 := Aside0.mk hb; clear hb) | (at_mapUpdate; refine wp_map_put rfl _ _ _ rfl rfl ((hg.under HB1.out).own.alloc _) (by omega) (folderF l0[i]) rfl hfz rfl ?_; intro w2 ho2 hg2; have HO2 := Aside0.mk ho2; have HG2 := Aside0.mk hg2; clear ho2 hg2))
          go_roundg (gk - 1)
          case measure => omega
          case rel =>
            refine ⟨i + 1, n + 1, _, by go_num, by omega, by omega, (hg.under HB1.out).new hfz HF.out (fun s => ?_) HO2.out HG2.out, ⟨fun s hs' => ?_⟩⟩
            · rw [HN.out, if_pos HS.out, mem_put]
            · rw [List.take_succ_eq_append_getElem hi, List.mem_append, List.mem_singleton] at hs'
              exact hs'.elim (HO.out s) (fun e => by rw [e]; exact HS.out)
      · have hb1 : decide ((i : Int) < (l0.length : Int)) = false := decide_eq_false (by omega)
        have ei : l0.take i = l0 := List.take_of_length_le (by omega)
        rw [ei] at hg HO
        clear ei
        go_wp2
        go_loopg [49] l0.length (fun kq v49 w' => ∃ (i : Nat), v49 = .int .i64 (i : Int) ∧ i + kq = l0.length ∧ GrB w0 w0.heap.size n D (foldersF l0) (fun _ _ => false) 0 w' ∧ Aside0 (∀ j (hj : j + 1 < l0.length), j + 1 < i → ltS l0[j] l0[j + 1] = true))
        case atStart => exact ⟨0, rfl, by omega, hg, ⟨fun j _ h => by omega⟩⟩
        case round =>
          clear hg hb1
          obtain ⟨j, rfl, hk2, hg, HA⟩ := hrel
          by_cases hj : j < l0.length
          · have hb2 : decide ((j : Int) < (l0.length : Int)) = true := decide_eq_true (by omega)
            by_cases hz : j = 0
            · subst hz
              go_wp2
              go_quiet (fail)
              go_wp2
              go_roundg (gk - 1)
              case measure => omega
              case rel => exact ⟨1, by go_num, by omega, hg.under (Drawn0.step (Drawn0.refl _) _).below, ⟨fun a _ h => by omega⟩⟩
            · obtain ⟨m, rfl⟩ : ∃ m, j = m + 1 := ⟨j - 1, by omega⟩
              obtain ⟨ad, e1, hx1⟩ := Kd.at_string (Kd.C_below HR0.out hg.bel) (m : Int) (by omega) (by omega)
              cases e1
              obtain ⟨ad2, e2, hx2⟩ := Kd.at_string (Kd.C_below HR0.out hg.bel) ((m + 1 : Nat) : Int) (by omega) (by omega)
              injection e2 with e2
              subst e2
              rw [rdOf_get (show m < l0.length by omega)] at hx1
              rw [rdOf_get hj] at hx2
              simp only [Int.toNat_natCast] at hx1 hx2
              have p0 : 0 ≤ (m : Int) := by omega
              have q0 : (m : Int) < (l0.length : Int) := by omega
              have q1 : (m : Int) + 1 < (l0.length : Int) := by omega
              have q2 : m < l0.length := by omega
              have hx3 : wr.cell? ⟨ad.block, ad.off + (m + 1), none⟩ = some (.string l0[m + 1]) := hx2
              have W3 := Aside0.mk (wrap_id (x := (m : Int)) (by omega) (by omega))
              cases hlt : ltS l0[m] l0[m + 1]
              · have hle : Op.bytesLess (l0[m]).toList (l0[m + 1]).toList = false := hlt
                have HE := Aside0.mk (rightF_low HLL.out (by have := HO.out; exact this) (risingB_not hj hlt))
                clear hlt
                have w1 := W3.out
                have w2 : IntKind.i64.wrap (m : Int) = (m : Int) := by rw [i64_w]; exact W3.out
                have w3 : IntKind.i64.wrap ((m : Int) + 1 - 1) = (m : Int) := by rw [Int.add_sub_cancel, i64_w]; exact W3.out
                have w4 : ((m : Int) + 1).toNat = m + 1 := by rfl
                have w5 : 0 ≤ (m : Int) + 1 := Int.natCast_nonneg (m + 1)
                go_wp2
                go_quiet (fail)
                clear w1 w2 w3 w4 w5
                go_wp2
                go_ret2
                refine ⟨_, by rw [HE.out]; rfl, (hg.under (Drawn0.step (Drawn0.refl _) _).below).bel, fun h => ?_⟩
                rw [HE.out] at h
                cases h
              · have hle : Op.bytesLess (l0[m]).toList (l0[m + 1]).toList = true := hlt
                have HE := Aside0.mk hlt
                clear hlt
                have w1 := W3.out
                have w2 : IntKind.i64.wrap (m : Int) = (m : Int) := by rw [i64_w]; exact W3.out
                have w3 : IntKind.i64.wrap ((m : Int) + 1 - 1) = (m : Int) := by rw [Int.add_sub_cancel, i64_w]; exact W3.out
                have w4 : ((m : Int) + 1).toNat = m + 1 := by rfl
                have w5 : 0 ≤ (m : Int) + 1 := Int.natCast_nonneg (m + 1)
                go_wp2
                go_quiet (fail)
                clear w1 w2 w3 w4 w5
                go_wp2
                go_roundg (gk - 1)
                case measure => omega
                case rel => exact ⟨m + 1 + 1, by go_num, by omega, hg.under (Drawn0.step (Drawn0.refl _) _).below, ⟨fun a ha h => by
                  by_cases e : a = m
                  · subst e; exact HE.out
                  · exact HA.out a ha (by omega)⟩⟩
          · have hb2 : decide ((j : Int) < (l0.length : Int)) = false := decide_eq_false (by omega)
            have hrise := risingB_get (fun a ha => HA.out a ha (by omega))
            have HE := Aside0.mk (rightF_ok HLL.out HO.out hrise)
            clear hrise HA
            have hg3 : GrB w0 w0.heap.size n D (foldersF l0) (edgeE (foldersF l0) (allPairs ((l0.zip l1).take 0))) (allPairs ((l0.zip l1).take 0)).length wr := by
              rw [List.take_zero, show allPairs [] = [] from rfl, edgeE_nil]
              exact hg
            clear hg
            go_wp2
            go_loopg [69] l0.length (fun kq v69 w' => ∃ (i : Nat), v69 = .int .i64 (i : Int) ∧ i + kq = l0.length ∧ GrB w0 w0.heap.size n D (foldersF l0) (edgeE (foldersF l0) (allPairs ((l0.zip l1).take i))) (allPairs ((l0.zip l1).take i)).length w')
            case atStart => exact ⟨0, rfl, by omega, hg3⟩
            case round =>
              clear hg3 hb2 hj
              obtain ⟨i3, rfl, hk3, hg⟩ := hrel
              obtain ⟨m2, rfl⟩ : ∃ m2, m2 = gk := ⟨_, rfl⟩
              by_cases hi3 : i3 < l0.length
              · have hb3 : decide ((i3 : Int) < (l0.length : Int)) = true := decide_eq_true (by omega)
                have hi4 : i3 < l1.length := by have := HLL.out; omega
                have hzl : i3 < (l0.zip l1).length := by rw [List.length_zip]; omega
                have hzi : (l0.zip l1)[i3] = (l0[i3], l1[i3]) := List.getElem_zip
                obtain ⟨ad, e1, hx⟩ := Kd.at_string (Kd.C_below HR0.out hg.bel) (i3 : Int) (by omega) (by omega)
                cases e1
                rw [rdOf_get hi3] at hx
                obtain ⟨ad1, A3, c3, A4, c4, e1, hy0, hy1, hy2, hy3, hy4, hl3, hC3, hl4, hC4⟩ := at_T46 HR1.out (i3 : Int) (by omega) (by omega)
                cases e1
                replace hy3 := pw_cell_below hg.bel hy3
                rw [rd46 hi4] at hy3 hl3 hC3
                simp only [Int.toNat_natCast] at hx hy3
                clear hy0 hy1 hy2 hy4 hl4 hC4
                have HP := Aside0.mk (hp l1[i3] (List.getElem_mem hi4))
                have hsz := hs l0[i3] (List.getElem_mem hi3)
                have ho := HO.out l0[i3] (List.getElem_mem hi3)
                have HFm := Aside0.mk ((mem_foldersF l0 (folderF l0[i3])).2 ⟨l0[i3], List.getElem_mem hi3, ho, rfl⟩)
                have hfz : (folderF l0[i3]).size < 1048577 := by have := folderF_size l0[i3]; omega
                have HNx := Aside0.mk (allPairs_next hzl)
                have hle := allPairs_le hzl
                have HPs := Aside0.mk (show pairsOf (l0.zip l1)[i3] = l1[i3].f1.map fun m => (folderF l0[i3], m.f1) by rw [hzi]; rfl)
                have hpl : (pairsOf (l0.zip l1)[i3]).length = l1[i3].f1.length := by rw [HPs.out, List.length_map]
                rw [hpl] at hle
                have HLe := Aside0.mk hle
                have HC3 := Aside0.mk hC3
                have p0 : 0 ≤ (i3 : Int) := by omega
                have q0 : (i3 : Int) < (l0.length : Int) := by omega
                have q1 : (i3 : Int) < (l1.length : Int) := by omega
                clear hzi hle hpl hC3
                generalize l1[i3].f1 = ms at hy3 hl3 HP HPs HLe HC3
                generalize l0[i3] = nm at hx hsz ho HFm hfz HPs
                generalize pairsOf (l0.zip l1)[i3] = ps at HNx HPs
                generalize allPairs ((l0.zip l1).take i3) = E at hg HNx HLe
                clear hzl
                go_wp2_with (go_at_call 8; refine (split_yes _ _ hsz ho).mono ?_; rintro e w1 ⟨rfl, hb⟩; have hy3' := pw_cell_below hb hy3; have HB1 := Aside0.mk hb; clear hb)
                have hg4 : GrB w0 w0.heap.size n D (foldersF l0) (edgeE (foldersF l0) (E ++ ps.take 0)) (E.length + 0) w1 := by
                  rw [List.take_zero, List.append_nil]
                  exact hg.under HB1.out
                go_loopg [86] ms.length (fun kq v86 w' => ∃ (j : Nat), v86 = .int .i64 (j : Int) ∧ j + kq = ms.length ∧ GrB w0 w0.heap.size n D (foldersF l0) (edgeE (foldersF l0) (E ++ ps.take j)) (E.length + j) w')
                case atStart => exact ⟨0, rfl, by omega, hg4⟩
                case round =>
                  clear hg4 hg hx hy3 hy3'
                  obtain ⟨j4, rfl, hk4, hg⟩ := hrel
                  obtain ⟨m3, rfl⟩ : ∃ m3, m3 = gk := ⟨_, rfl⟩
                  by_cases hj4 : j4 < ms.length
                  · have hb4 : decide ((j4 : Int) < (ms.length : Int)) = true := decide_eq_true (by omega)
                    obtain ⟨ad3, e3, hz0, hz1, hz2, hz3⟩ := at_T48 (Kd.C_below HC3.out hg.bel) (j4 : Int) (by omega) (by omega)
                    cases e3
                    rw [rd48 hj4] at hz0 hz1 hz2 hz3
                    simp only [Int.toNat_natCast] at hz0 hz1 hz2 hz3
                    have hpz := HP.out ms[j4] (List.getElem_mem hj4)
                    have HPj := Aside0.mk (show ps.take (j4 + 1) = ps.take j4 ++ [(folderF nm, ms[j4].f1)] by rw [HPs.out, List.take_succ_eq_append_getElem (by rw [List.length_map]; exact hj4), List.getElem_map])
                    generalize ms[j4] = mm at hz0 hz1 hz2 hz3 hpz HPj
                    have p4 : 0 ≤ (j4 : Int) := by omega
                    have q4 : (j4 : Int) < (ms.length : Int) := by omega
                    have hcap : E.length + j4 < 1048577 := by have := HLe.out; omega
                    cases hin : decide (mm.f1 ∈ foldersF l0)
                    · have hh := (hg.has mm.f1).trans hin
                      go_wp2_with (at_lookup; refine wp_map_is rfl _ _ rfl rfl (hg.own.alloc _) mm.f1 rfl hpz hh ?_; intro q)
                      go_roundg (m3 - 1)
                      case measure => omega
                      case rel =>
                        refine ⟨j4 + 1, by go_num, by omega, ?_⟩
                        rw [HPj.out, ← List.append_assoc, edgeE_out (of_decide_eq_false hin)]
                        exact (hg.under (below_alloc (Below.refl _ _) _)).mono (by omega)
                    · have hh := (hg.has mm.f1).trans hin
                      obtain ⟨b, n', D', e1, hB, hlow, hin', hcap', hkeys⟩ := hg.el _ HFm.out
                      have HE1 := Aside0.mk e1
                      have HKs := Aside0.mk hkeys
                      have hmap := hin'.isMap
                      clear e1 hkeys
                      go_wp2_with (first | (at_lookup; refine wp_map_is rfl _ _ rfl rfl (hg.own.alloc _) mm.f1 rfl hpz hh ?_; intro q) | (at_lookup; refine wp_map_look rfl _ _ rfl rfl (hg.own.alloc _) (folderF nm) rfl hfz HE1.out ?_) | (at_mapUpdate; refine wp_key_put rfl _ _ _ rfl rfl (hin'.alloc _) (by omega) mm.f1 rfl hpz 1 rfl (by decide) ?_; intro w5 ho5 hg5; have HO5 := Aside0.mk ho5; have HG5 := Aside0.mk hg5; clear ho5 hg5))
                      go_roundg (m3 - 1)
                      case measure => omega
                      case rel =>
                        refine ⟨j4 + 1, by go_num, by omega, ?_⟩
                        rw [HPj.out, ← List.append_assoc]
                        exact (hg.under (below_alloc (Below.refl _ _) _)).put HFm.out hpz HE1.out hlow hB hcap' HKs.out hmap (edgeE_in (of_decide_eq_true hin)) HO5.out HG5.out
                  · have hb4 : decide ((j4 : Int) < (ms.length : Int)) = false := decide_eq_false (by omega)
                    have hpl : ps.length = ms.length := by rw [HPs.out, List.length_map]
                    go_wp2
                    go_roundg (m2 - 1)
                    case measure => omega
                    case rel =>
                      refine ⟨i3 + 1, by go_num, by omega, ?_⟩
                      rw [HNx.out]
                      rw [List.take_of_length_le (by omega)] at hg
                      rw [List.length_append, show E.length + ps.length = E.length + j4 by omega]
                      exact hg
              · have hb3 : decide ((i3 : Int) < (l0.length : Int)) = false := decide_eq_false (by omega)
                have ei : (l0.zip l1).take i3 = l0.zip l1 := List.take_of_length_le (by rw [List.length_zip]; omega)
                rw [ei] at hg
                go_wp2
                go_ret2
                exact ⟨_, by rw [HE.out]; rfl, hg.bel, fun _ => ⟨_, rfl, hg.graph⟩⟩
  · have HLL := Aside0.mk (rightF_one hll)
    have hb0 : ((l0.length : Int) != (l1.length : Int)) = true := bne_iff_ne.2 (by omega)
    clear hll
    go_enter Tryd.func30, Tryd.ntmps30
    go_wp2
    go_ret2
    refine ⟨_, by rw [HLL.out]; rfl, Below.refl _ _, fun h => ?_⟩
    rw [HLL.out] at h
    cases h
end Go.Proofs.YtcejdokeaoklaaaDoor.PImp

/-! imports.Order, imports.Needs: the walks. -/
set_option linter.unusedVariables false
namespace Go.Proofs.YtcejdokeaoklaaaDoor.PImp
open Go.RowKit Go.Sort Go.Maps Go.Proofs.YtcejdokeaoklaaaDoorW.PrintWords Go.Proofs.YtcejdokeaoklaaaDoorW.PrintLast Go.Proofs.YtcejdokeaoklaaaDoorW.PrintMore
open Go.Proofs.YtcejdokeaoklaaaDoor.Imp
/-- How great what came in may be. -/
def Small (l0 : List ByteArray) (l1 : List S46) : Prop := l0.length < 1048577 ∧ (∀ s ∈ l0, s.size < 1048577) ∧ (∀ o ∈ l1, ∀ m ∈ o.f1, m.f1.size < 1048577) ∧ (allPairs (l0.zip l1)).length < 1048577
/-- The order's two lists. -/
def ordA (l0 : List ByteArray) (l1 : List S46) : List ByteArray := if rightF l0 l1 = 0 then first (foldersF l0) (edgeF l0 l1) else []
def ordB (l0 : List ByteArray) (l1 : List S46) : List ByteArray := if rightF l0 l1 = 0 then second (foldersF l0) (edgeF l0 l1) else []
theorem edgeF_in {l0 : List ByteArray} {l1 : List S46} : ∀ s t, edgeF l0 l1 s t = true → t ∈ foldersF l0 := by
  intro s t h
  unfold edgeF edgeE at h
  rw [Bool.and_eq_true] at h
  exact of_decide_eq_true h.2
section
variable (A0 : Option Addr) (c0 : Nat) (l0 : List ByteArray) (A1 : Option Addr) (c1 : Nat) (l1 : List S46) (w0 : World) (hr0 : Kd.C Kd.string w0 A0 l0.length l0) (hr1 : Kd.C k46 w0 A1 l1.length l1) (hS : Small l0 l1)
include hr0 hr1 hS
theorem made_no (h : rightF l0 l1 ≠ 0) : Calls Tryd.prog 30 #[.slice A0 l0.length c0, .slice A1 l1.length c1] w0 fun e w' => ∃ v, e = .returned (.tuple #[v, .int .i64 (rightF l0 l1)]) ∧ Below w0.heap.size w0 w' :=
  (made_walk A0 c0 l0 A1 c1 l1 w0 hr0 hr1 hS.1 hS.2.1 hS.2.2.1 hS.2.2.2).mono fun e w' ⟨v, he, hb, _⟩ => ⟨v, he, hb⟩
theorem made_yes (h : rightF l0 l1 = 0) : Calls Tryd.prog 30 #[.slice A0 l0.length c0, .slice A1 l1.length c1] w0 fun e w' => ∃ B, e = .returned (.tuple #[.map (some B), .int .i64 0]) ∧ GraphAt w' B (foldersF l0) (edgeF l0 l1) ∧ Below w0.heap.size w0 w' := by
  refine (made_walk A0 c0 l0 A1 c1 l1 w0 hr0 hr1 hS.1 hS.2.1 hS.2.2.1 hS.2.2.2).mono fun e w' ⟨v, he, hb, hok⟩ => ?_
  obtain ⟨B, rfl, hG⟩ := hok h
  rw [h] at he
  exact ⟨B, he, hG, hb⟩
set_option maxHeartbeats 4000000 in
set_option maxRecDepth 100000 in
theorem Order_walk : Calls Tryd.prog 14 #[.slice A0 l0.length c0, .slice A1 l1.length c1] w0 fun e w' => ∃ v1 v2, e = .returned (.tuple #[v1, v2, .int .i64 (rightF l0 l1)]) ∧ RowS w' w0.heap.size v1 (ordA l0 l1) ∧ RowS w' w0.heap.size v2 (ordB l0 l1) ∧
    (∀ k, v1.ownBlock = some k → v2.ownBlock ≠ some k) ∧ Below w0.heap.size w0 w' := by
  by_cases h : rightF l0 l1 = 0
  · have hm := made_yes A0 c0 l0 A1 c1 l1 w0 hr0 hr1 hS h
    have hz := foldersF_small hS.2.1
    have hn := foldersF_length l0
    have hn2 := hS.1
    have HR := Aside0.mk h
    clear hr0 hr1 hS h
    go_enter Tryd.func14, Tryd.ntmps14
    go_wp2_with (first | (go_at_call 30; refine hm.mono ?_; rintro e w1 ⟨B, rfl, hG, hb⟩; have HG := Aside0.mk hG; have HB := Aside0.mk hb; clear hG hb) | (go_at_call 31; refine (order_walk w1 B (foldersF l0) (edgeF l0 l1) HG.out edgeF_in hz (by omega) (foldersF_rising l0)).mono ?_; rintro e w2 ⟨v1, v2, rfl, h1, h2, h3, hb2⟩; have H1 := Aside0.mk h1; have H2 := Aside0.mk h2; have H3 := Aside0.mk h3; have HB2 := Aside0.mk hb2; clear h1 h2 h3 hb2))
    go_ret3
    refine ⟨_, _, by first | rfl | (rw [HR.out]; rfl), ?_, ?_, H3.out, HB.out.trans (HB2.out.mono HB.out.size)⟩
    · unfold ordA
      rw [if_pos HR.out]
      exact own_weaken H1.out HB.out.size
    · unfold ordB
      rw [if_pos HR.out]
      exact own_weaken H2.out HB.out.size
  · have hm := made_no A0 c0 l0 A1 c1 l1 w0 hr0 hr1 hS h
    have hb0 : (rightF l0 l1 != 0) = true := bne_iff_ne.2 h
    have HR := Aside0.mk h
    clear hr0 hr1 hS h
    go_enter Tryd.func14, Tryd.ntmps14
    go_wp2_with (go_at_call 30; refine hm.mono ?_; rintro e w1 ⟨v, rfl, hb⟩; have HB := Aside0.mk hb; clear hb)
    go_ret3
    refine ⟨_, _, rfl, ?_, ?_, fun k hk => by simp [Value.ownBlock] at hk, HB.out⟩
    · unfold ordA
      rw [if_neg HR.out]
      exact own_nil _ _ _ _
    · unfold ordB
      rw [if_neg HR.out]
      exact own_nil _ _ _ _
end
/-- Those of a list that one needs. -/
noncomputable def needsOf (edge : ByteArray → ByteArray → Bool) (path : ByteArray) (l : List ByteArray) : List ByteArray := l.filter fun f => @decide (f ≠ path ∧ Imp.Reach (fun a b => edge a b = true) path f) (Classical.propDecidable _)
noncomputable def needsF (l0 : List ByteArray) (l1 : List S46) (path : ByteArray) : List ByteArray := if rightF l0 l1 = 0 ∧ path ∈ foldersF l0 then needsOf (edgeF l0 l1) path (first (foldersF l0) (edgeF l0 l1) ++ second (foldersF l0) (edgeF l0 l1)) else []
def needsE (l0 : List ByteArray) (l1 : List S46) (path : ByteArray) : Int := if rightF l0 l1 = 0 then (if path ∈ foldersF l0 then 0 else 100) else rightF l0 l1
theorem needsOf_snoc (edge : ByteArray → ByteArray → Bool) (path : ByteArray) (l : List ByteArray) (f : ByteArray) {S : List ByteArray} (hS : ∀ s, s ∈ S ↔ Imp.Reach (fun a b => edge a b = true) path s) :
    needsOf edge path (l ++ [f]) = needsOf edge path l ++ (if f ≠ path ∧ f ∈ S then [f] else []) := by
  unfold needsOf
  rw [List.filter_append]
  congr 1
  by_cases h : f ≠ path ∧ f ∈ S
  · rw [if_pos h, List.filter_cons_of_pos (by simp only [decide_eq_true_eq]; exact ⟨h.1, (hS f).1 h.2⟩)]
    rfl
  · rw [if_neg h, List.filter_cons_of_neg (by simp only [decide_eq_true_eq]; exact fun h' => h ⟨h'.1, (hS f).2 h'.2⟩)]
    rfl
theorem needsOf_length (edge : ByteArray → ByteArray → Bool) (path : ByteArray) (l : List ByteArray) : (needsOf edge path l).length ≤ l.length := List.length_filter_le _ _
structure NSt (w0 : World) (b n : Nat) (S J L : List ByteArray) (v15 v45 : Value) (w : World) : Prop where
  row15 : RowS w w0.heap.size v15 L
  row45 : RowS w w0.heap.size v45 J
  ne : ∀ k, v15.ownBlock = some k → v45.ownBlock ≠ some k
  map : NumMap w b n (ind S)
  bel : Below w0.heap.size w0 w
section
variable {w0 w : World} {b n : Nat} {S J L : List ByteArray} {v15 v45 : Value}
theorem NSt.under (h : NSt w0 b n S J L v15 v45 w) {w' : World} (hb : Below w.heap.size w w') : NSt w0 b n S J L v15 v45 w' := by
  obtain ⟨h1, h2, h3, h4, h6⟩ := h
  exact ⟨h1.below hb, h2.below hb, h3, h4.below hb, h6.trans (hb.mono h6.size)⟩
theorem NSt.app (h : NSt w0 b n S J L v15 v45 w) {w' : World} {u : Value} {L' : List ByteArray} (hr : RowS w' w0.heap.size u L') (hb : Below w0.heap.size w0 w') (hg : w.grownBy w' v15.ownBlock) (hat : u.ownBlock = v15.ownBlock ∨ ∃ b, u.ownBlock = some b ∧ w.heap.size ≤ b) : NSt w0 b n S J L' u v45 w' := by
  obtain ⟨h1, h2, h3, h4, h6⟩ := h
  have hm : some b ≠ v15.ownBlock := by
    obtain ⟨D, hD, _⟩ := h4
    exact map_ne_row hD h1
  refine ⟨hr, ?_, ?_, h4.kept hg hm, hb⟩
  · refine World.ownsRow.kept h2 hg ?_
    by_cases e : v45.ownBlock = none
    · exact .inl e
    · refine .inr (fun e2 => ?_)
      obtain ⟨k, hk⟩ := Option.ne_none_iff_exists'.1 e
      exact h3 k (by rw [← e2]; exact hk) hk
  · intro k hk e
    rcases hat with ha | ⟨c, hc, hle⟩
    · exact h3 k (by rw [← ha]; exact hk) e
    · have := row_lt h2 k e
      rw [hc] at hk
      injection hk with hk
      omega
end
section
variable (A0 : Option Addr) (c0 : Nat) (l0 : List ByteArray) (A1 : Option Addr) (c1 : Nat) (l1 : List S46) (path : ByteArray) (w0 : World) (hr0 : Kd.C Kd.string w0 A0 l0.length l0) (hr1 : Kd.C k46 w0 A1 l1.length l1) (hS : Small l0 l1) (hp : path.size < 1048577)
include hr0 hr1 hS hp
set_option maxHeartbeats 8000000 in
set_option maxRecDepth 100000 in
theorem Needs_walk : Calls Tryd.prog 16 #[.slice A0 l0.length c0, .slice A1 l1.length c1, .string path] w0 fun e w' => ∃ v1, e = .returned (.tuple #[v1, .int .i64 (needsE l0 l1 path)]) ∧ RowS w' w0.heap.size v1 (needsF l0 l1 path) ∧ Below w0.heap.size w0 w' := by
  by_cases h : rightF l0 l1 = 0
  · have hm := made_yes A0 c0 l0 A1 c1 l1 w0 hr0 hr1 hS h
    have hz := foldersF_small hS.2.1
    have hn := foldersF_length l0
    have hn2 := hS.1
    by_cases hin : path ∈ foldersF l0
    · have HE := Aside0.mk (show needsE l0 l1 path = 0 by unfold needsE; rw [if_pos h, if_pos hin])
      have HF := Aside0.mk (show needsF l0 l1 path = needsOf (edgeF l0 l1) path (first (foldersF l0) (edgeF l0 l1) ++ second (foldersF l0) (edgeF l0 l1)) by unfold needsF; rw [if_pos ⟨h, hin⟩])
      have hdec : decide (path ∈ foldersF l0) = true := decide_eq_true hin
      have hfl := (first_placed (foldersF l0) (edgeF l0 l1)).length_le
      have hsl : (second (foldersF l0) (edgeF l0 l1)).length ≤ (foldersF l0).length := by unfold second; exact List.length_filter_le _ _
      have HJ := Aside0.mk (show ∀ f ∈ first (foldersF l0) (edgeF l0 l1) ++ second (foldersF l0) (edgeF l0 l1), f.size < 1048577 by
        intro f hf
        rcases List.mem_append.1 hf with hf | hf
        · exact hz f ((first_placed _ _).2.1 f hf)
        · unfold second at hf
          exact hz f (List.mem_filter.1 hf).1)
      obtain ⟨J, hJJ⟩ : ∃ J, J = first (foldersF l0) (edgeF l0 l1) ++ second (foldersF l0) (edgeF l0 l1) := ⟨_, rfl⟩
      have hJl : J.length ≤ 2097153 := by rw [hJJ, List.length_append]; omega
      rw [← hJJ] at HF HJ
      have HJJ := Aside0.mk hJJ
      clear hr0 hr1 hS h hJJ
      go_enter Tryd.func16, Tryd.ntmps16
      go_wp2_with (first | (go_at_call 30; refine hm.mono ?_; rintro e w1 ⟨B, rfl, hG, hb⟩; have HG := Aside0.mk hG; have HB := Aside0.mk hb; obtain ⟨nG, D, hD, hh, _⟩ := hG; have HH := Aside0.mk ((hh path).trans hdec); clear hb hh) | (at_lookup; refine wp_map_is rfl _ _ rfl rfl hD path rfl hp HH.out ?_; intro q) | (go_at_call 35; refine (reach_walk w1 B (foldersF l0) (edgeF l0 l1) path HG.out edgeF_in hz hin (by omega)).mono ?_; rintro e w2 ⟨b, S, rfl, hm2, hS2, hb2⟩; have HM2 := Aside0.mk hm2; have HS2 := Aside0.mk hS2; have HB2 := Aside0.mk hb2; clear hm2 hS2 hb2) | (go_at_call 31; refine (order_walk w2 B (foldersF l0) (edgeF l0 l1) (HG.out.below HB2.out) edgeF_in hz (by omega) (foldersF_rising l0)).mono ?_; rintro e w3 ⟨v1, v2, rfl, h1, h2, h3, hb3⟩; obtain ⟨A2, c2, rfl, hcl2, hC2⟩ := Kd.R_reads h2.to_R; have H1 := Aside0.mk h1; have HC2 := Aside0.mk hC2; have HB3 := Aside0.mk hb3; clear h1 h2 h3 hb3 hC2) | (at_builtin; refine Kd.R_append_rows Kd.string (Rr := Kd.string.K w3) (w0 := w0) w0.heap.size rfl _ _ 26 9 (.string ⟨#[]⟩) 16 rfl Tryd.underlying26 info9 rfl (by decide) (by omega) v1 (first (foldersF l0) (edgeF l0 l1)) (second (foldersF l0) (edgeF l0 l1)) A2 (second (foldersF l0) (edgeF l0 l1)).length c2 (fun _ => True) (fun _ => False) rfl rfl (RowS.to_R (own_weaken H1.out (Nat.le_trans HB.out.size HB2.out.size))) HC2.out (fun _ _ h => h) (fun _ hk => hk.elim) (fun _ _ => trivial) ?aB ?aS (by omega) ?_; (case aB => exact (HB.out.trans (HB2.out.mono HB.out.size)).trans (HB3.out.mono (Nat.le_trans HB.out.size HB2.out.size))); (case aS => exact Nat.le_trans (Nat.le_trans HB.out.size HB2.out.size) HB3.out.size); intro v4 w4 hr4 hb4 hg4 hat4; rw [← HJJ.out] at hr4; obtain ⟨A4, c4, rfl, hcl4, _⟩ := Kd.R_reads hr4; have HR4 := Aside0.mk hr4; have HB4 := Aside0.mk hb4; have HG4 := Aside0.mk hg4; clear hr4 hb4 hg4 hat4))
      have hst0 : NSt w0 b S.length S J [] (.slice none 0 0) (.slice A4 J.length c4) w4 := by
        refine ⟨own_nil _ _ _ _, .of_R HR4.out, fun k hk => by simp [Value.ownBlock] at hk, ?_, HB4.out⟩
        have hm3 := HM2.out.below HB3.out
        obtain ⟨D3, hD3, _⟩ := id hm3
        exact hm3.kept HG4.out (map_ne_row hD3 H1.out)
      have HS3 := HS2
      clear hm hD HG4 HM2 HG H1 HC2 HB HB2 HB3 HB4 HR4 HH hcl2
      go_loopg [15, 47] J.length (fun kq v15 v47 w' => ∃ (i : Nat), v47 = .int .i64 (i : Int) ∧ i + kq = J.length ∧ NSt w0 b S.length S J (needsOf (edgeF l0 l1) path (J.take i)) v15 (.slice A4 J.length c4) w')
      case atStart => exact ⟨0, rfl, by omega, hst0⟩
      case round =>
        clear hst0
        obtain ⟨i, rfl, hk, hst⟩ := hrel
        by_cases hi : i < J.length
        · have hb0 : decide ((i : Int) < (J.length : Int)) = true := decide_eq_true (by omega)
          obtain ⟨A', c', hv, _, hC⟩ := Kd.R_reads hst.row45.to_R
          obtain ⟨ad, e1, hx⟩ := Kd.at_string hC (i : Int) (by omega) (by omega)
          injection hv with hv1 hv2 hv3
          subst hv1
          cases e1
          clear hC hv2 hv3
          rw [rdOf_get hi] at hx
          simp only [Int.toNat_natCast] at hx
          have hfs := HJ.out J[i] (List.getElem_mem hi)
          have HN := Aside0.mk (show needsOf (edgeF l0 l1) path (J.take (i + 1)) = needsOf (edgeF l0 l1) path (J.take i) ++ (if J[i] ≠ path ∧ J[i] ∈ S then [J[i]] else []) by rw [List.take_succ_eq_append_getElem hi]; exact needsOf_snoc _ _ _ _ HS3.out)
          have hnl := needsOf_length (edgeF l0 l1) path (J.take i)
          rw [List.length_take] at hnl
          have HNL := Aside0.mk (show (needsOf (edgeF l0 l1) path (J.take i)).length < 4194304 by omega)
          generalize J[i] = f at hx hfs HN
          have p0 : 0 ≤ (i : Int) := by omega
          have q0 : (i : Int) < (J.length : Int) := by omega
          clear hnl
          by_cases hfp : f = path
          · have h1 : (f.toList == path.toList) = true := by rw [hfp]; simp
            have h2 : (f.toList != path.toList) = false := by rw [hfp]; simp
            have HFP := Aside0.mk hfp
            clear hfp
            go_wp2
            go_roundg (gk - 1)
            case measure => omega
            case rel =>
              refine ⟨i + 1, by go_num, by omega, ?_⟩
              rw [HN.out, if_neg (fun h => h.1 HFP.out), List.append_nil]
              exact hst
          · have h1 : (f.toList == path.toList) = false := by simpa using fun e => hfp (toList_inj.1 e)
            have h2 : (f.toList != path.toList) = true := by simpa using fun e => hfp (toList_inj.1 e)
            have HFP := Aside0.mk hfp
            clear hfp
            by_cases hin2 : f ∈ S
            · have hi1 := ind_in hin2
              go_wp2_with (first | (at_lookup; (try (refine gate_guard (by rfl) ?_; dsimp only)); refine wp_num_look rfl _ _ rfl rfl hst.map f rfl hfs ?_) | (at_builtin; refine wp_app rfl _ _ rfl (w0 := w0) (base := w0.heap.size) (v := u15) f rfl rfl hst.row15 hst.bel hst.bel.size HNL.out ?_; intro v5 w5 hr5 hb5 hg5 hat5; have HR5 := Aside0.mk hr5; have HB5 := Aside0.mk hb5; have HG5 := Aside0.mk hg5; have HT5 := Aside0.mk hat5; clear hr5 hb5 hg5 hat5))
              go_roundg (gk - 1)
              case measure => omega
              case rel =>
                refine ⟨i + 1, by go_num, by omega, ?_⟩
                rw [HN.out, if_pos ⟨HFP.out, hin2⟩]
                exact hst.app HR5.out HB5.out HG5.out HT5.out
            · have hi1 := ind_out hin2
              go_wp2_with (at_lookup; (try (refine gate_guard (by rfl) ?_; dsimp only)); refine wp_num_look rfl _ _ rfl rfl hst.map f rfl hfs ?_)
              go_roundg (gk - 1)
              case measure => omega
              case rel =>
                refine ⟨i + 1, by go_num, by omega, ?_⟩
                rw [HN.out, if_neg (fun h => hin2 h.2), List.append_nil]
                exact hst
        · have hb0 : decide ((i : Int) < (J.length : Int)) = false := decide_eq_false (by omega)
          have ei : J.take i = J := List.take_of_length_le (by omega)
          rw [ei] at hst
          clear ei
          go_wp2
          go_ret2
          refine ⟨_, by rw [HE.out]; rfl, ?_, hst.bel⟩
          rw [HF.out]
          exact hst.row15
    · have HE := Aside0.mk (show needsE l0 l1 path = 100 by unfold needsE; rw [if_pos h, if_neg hin])
      have HF := Aside0.mk (show needsF l0 l1 path = [] by unfold needsF; rw [if_neg (fun h => hin h.2)])
      have hdec : decide (path ∈ foldersF l0) = false := decide_eq_false hin
      clear hr0 hr1 hS h
      go_enter Tryd.func16, Tryd.ntmps16
      go_wp2_with (first | (go_at_call 30; refine hm.mono ?_; rintro e w1 ⟨B, rfl, hG, hb⟩; have HB := Aside0.mk hb; obtain ⟨nG, D, hD, hh, _⟩ := hG; have HH := Aside0.mk ((hh path).trans hdec); clear hb hh) | (at_lookup; refine wp_map_is rfl _ _ rfl rfl hD path rfl hp HH.out ?_; intro q))
      go_ret2
      refine ⟨_, by rw [HE.out]; rfl, ?_, HB.out⟩
      rw [HF.out]
      exact own_nil _ _ _ _
  · have hm := made_no A0 c0 l0 A1 c1 l1 w0 hr0 hr1 hS h
    have hb0 : (rightF l0 l1 != 0) = true := bne_iff_ne.2 h
    have HE := Aside0.mk (show needsE l0 l1 path = rightF l0 l1 by unfold needsE; rw [if_neg h])
    have HF := Aside0.mk (show needsF l0 l1 path = [] by unfold needsF; rw [if_neg (fun h' => h h'.1)])
    clear hr0 hr1 hS h
    go_enter Tryd.func16, Tryd.ntmps16
    go_wp2_with (go_at_call 30; refine hm.mono ?_; rintro e w1 ⟨v, rfl, hb⟩; have HB := Aside0.mk hb; clear hb)
    go_ret2
    refine ⟨_, by rw [HE.out]; rfl, ?_, HB.out⟩
    rw [HF.out]
    exact own_nil _ _ _ _
end
end Go.Proofs.YtcejdokeaoklaaaDoor.PImp
