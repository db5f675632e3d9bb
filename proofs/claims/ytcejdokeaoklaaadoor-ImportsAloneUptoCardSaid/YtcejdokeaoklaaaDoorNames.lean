import Derived.Test.YtcejdokeaoklaaaDoorPImpx0
import Derived.Laws.IdiomStrings
import Derived.Lib.SplitLaws
/-! imports.isWord: 'range []byte(s)'. -/
namespace Go.Proofs.YtcejdokeaoklaaaDoor.PImp
open Go.RowKit Go.Proofs.YtcejdokeaoklaaaDoorW.PrintWords Go.Proofs.YtcejdokeaoklaaaDoorW.PrintLast Go.Proofs.YtcejdokeaoklaaaDoorW.PrintMore
/-- A byte of a word. -/
def wordB (b : UInt8) : Bool := (decide (97 ≤ b.toNat) && decide (b.toNat ≤ 122)) || (decide (48 ≤ b.toNat) && decide (b.toNat ≤ 57)) || decide (b.toNat = 95)
def wordOf (s : ByteArray) : Bool := s.data.toList.all wordB && decide (s.size ≠ 0)
theorem bytesRow_at (s : ByteArray) (c i : Nat) (h : i < s.size) : (bytesRow s c)[i]? = some (.int .u8 (s[i].toNat : Int)) := by
  unfold bytesRow
  rw [Array.getElem?_append_left (by simpa using h)]
  simp [h]
  try rfl
theorem wordB_int (b : UInt8) : wordB b = ((decide (97 ≤ (b.toNat : Int)) && decide ((b.toNat : Int) ≤ 122)) || (decide (48 ≤ (b.toNat : Int)) && decide ((b.toNat : Int) ≤ 57)) || decide ((b.toNat : Int) = 95)) := by
  unfold wordB
  rw [show decide (97 ≤ b.toNat) = decide (97 ≤ (b.toNat : Int)) from by simp only [decide_eq_decide]; omega, show decide (b.toNat ≤ 122) = decide ((b.toNat : Int) ≤ 122) from by simp only [decide_eq_decide]; omega, show decide (48 ≤ b.toNat) = decide (48 ≤ (b.toNat : Int)) from by simp only [decide_eq_decide]; omega, show decide (b.toNat ≤ 57) = decide ((b.toNat : Int) ≤ 57) from by simp only [decide_eq_decide]; omega, show decide (b.toNat = 95) = decide ((b.toNat : Int) = 95) from by simp only [decide_eq_decide]; omega]
theorem isWord_end (s : ByteArray) (i : Nat) (hi : i < s.size) (h : wordB s[i] = false) : wordOf s = false := by
  unfold wordOf
  rw [Bool.and_eq_false_iff]
  refine .inl ?_
  rw [List.all_eq_false]
  have hm : s.data[i]'hi ∈ s.data.toList := Array.mem_toList_iff.mpr (Array.getElem_mem hi)
  exact ⟨s.data[i]'hi, hm, by rw [show s.data[i]'hi = s[i] from rfl, h]; decide⟩
theorem isWord_all (s : ByteArray) (h : ∀ j (h : j < s.size), wordB s[j] = true) : wordOf s = decide (s.size ≠ 0) := by
  unfold wordOf
  rw [show s.data.toList.all wordB = true from ?_, Bool.true_and]
  rw [List.all_eq_true]
  intro x hx
  obtain ⟨j, hj, rfl⟩ := Array.mem_iff_getElem.mp (Array.mem_toList_iff.mp hx)
  exact h j hj
theorem word_empty (s : ByteArray) : (!s.toList.isEmpty) = decide (s.size ≠ 0) := by
  have h : s.toList.length = s.size := by rw [ByteArray.toList_eq]; exact Array.length_toList
  cases e : s.toList with
  | nil => rw [e] at h; simp at h; simp [← h]
  | cons a l => rw [e] at h; simp at h; simp [← h]
theorem wb_no {c : Int} {x1 x2 x3 x4 x5 : Bool} (b1 : decide (97 ≤ c) = x1) (b2 : decide (c ≤ 122) = x2) (b3 : decide (48 ≤ c) = x3) (b4 : decide (c ≤ 57) = x4) (b5 : decide (c = 95) = x5)
    (h : ((x1 && (!x3 || x4 || x5)) || (x4 && (!x2 || x1 || x5)) || (x5 && (!x3 || !x2 || x1 || x4)) || (!x2 && !x1) || (!x3 && !x4)) = true) : False := by
  subst b1 b2 b3 b4 b5
  simp only [Bool.or_eq_true, Bool.and_eq_true, decide_eq_true_eq, Bool.not_eq_true', decide_eq_false_iff_not] at h
  omega
set_option maxHeartbeats 8000000 in
set_option maxRecDepth 100000 in
theorem imports_isWord.walk (s : ByteArray) (w : World) (hs : s.size < 4611686018427387904) :
    Calls Tryd.prog 24 #[.string s] w fun e w' => e = .returned (.bool (wordOf s)) ∧ Below w.heap.size w w' := by
  have hconv := run_bytes_of_string (P := Tryd.prog) w 9 72 5 s Tryd.underlying9 Tryd.underlying72 Tryd.underlying5
  have hrow := bytesRow_at s (grownCap w s.size 0 5)
  generalize grownCap w s.size 0 5 = cap at hconv hrow
  generalize bytesRow s cap = C at hconv hrow
  go_enter Tryd.func24, Tryd.ntmps24
  go_wp2
  have hcell : ∀ (i : Nat) (h : i < s.size), (w.alloc (.cells C 5 (C.size, C.size + 1))).cell? ⟨w.heap.size, i, none⟩ = some (.int .u8 (s[i].toNat : Int)) := by
    intro i h
    rw [World.cell?_alloc_mark, hrow i h]
  have hfz : ∀ (i : Nat) (h : i < s.size), (w.alloc (.cells C 5 (C.size, C.size + 1))).frozen? ⟨w.heap.size, i, none⟩ = false := by
    intro i h
    have : i < C.size := (Array.getElem?_eq_some_iff.mp (hrow i h)).1
    rw [World.frozen?_alloc_mark, decide_eq_false (by omega)]
    rfl
  go_loopg [8] s.size (fun kq v8 w' => ∃ (i : Nat), v8 = .int .i64 (i : Int) ∧ i + kq = s.size ∧ Aside0 (∀ j (h : j < s.size), j < i → wordB s[j] = true) ∧ w' = (w.alloc (.cells C 5 (C.size, C.size + 1))).drew)
  case atStart => exact ⟨0, rfl, by omega, ⟨fun j h h2 => absurd h2 (Nat.not_lt_zero _)⟩, rfl⟩
  case round =>
    obtain ⟨i, rfl, hk, HW, rfl⟩ := hrel
    by_cases hi : i < s.size
    · have hb0 : decide ((i : Int) < (s.size : Int)) = true := decide_eq_true (by omega)
      have hc := hcell i hi
      have hz := hfz i hi
      have hw := wordB_int s[i]
      have hend := isWord_end s i hi
      have hnext : wordB s[i] = true → ∀ j (h : j < s.size), j < i + 1 → wordB s[j] = true := by
        intro h j hj hlt
        by_cases e : j = i
        · subst e; exact h
        · exact HW.out j hj (by omega)
      generalize hcc : (s[i].toNat : Int) = c at hc hw
      cases hv : wordB s[i]
      · have he := hend hv
        rw [hv] at hw
        cases b1 : decide (97 ≤ c) <;> cases b2 : decide (c ≤ 122) <;> cases b3 : decide (48 ≤ c) <;> cases b4 : decide (c ≤ 57) <;> cases b5 : decide (c = 95)
        all_goals first
          | exact (wb_no b1 b2 b3 b4 b5 rfl).elim
          | (rw [b1, b2, b3, b4, b5] at hw; exact absurd hw (by decide))
          | skip
        all_goals
          have b6 := (show (c == 95) = decide (c = 95) from by by_cases h : c = 95 <;> simp [h]).trans b5
          clear hw hend hnext hv
          go_wp2
          go_ret
          exact ⟨by rw [he]; rfl, by first | exact below_alloc _ _ | exact (below_alloc _ _).drew | exact (below_alloc (Below.refl _ _) _).drew | exact Below.drew (below_alloc (Below.refl _ _) _)⟩
      · have he := hnext hv
        rw [hv] at hw
        cases b1 : decide (97 ≤ c) <;> cases b2 : decide (c ≤ 122) <;> cases b3 : decide (48 ≤ c) <;> cases b4 : decide (c ≤ 57) <;> cases b5 : decide (c = 95)
        all_goals first
          | exact (wb_no b1 b2 b3 b4 b5 rfl).elim
          | (rw [b1, b2, b3, b4, b5] at hw; exact absurd hw (by decide))
          | skip
        all_goals
          have b6 := (show (c == 95) = decide (c = 95) from by by_cases h : c = 95 <;> simp [h]).trans b5
          clear hw hend hnext hv
          go_wp2
          go_roundg (gk - 1)
          case measure => omega
          case rel => exact ⟨i + 1, rfl, by omega, ⟨he⟩, rfl⟩
    · have hb0 : decide ((i : Int) < (s.size : Int)) = false := decide_eq_false (by omega)
      have he := isWord_all s (fun j hj => HW.out j hj (by omega))
      go_wp2
      go_ret
      exact ⟨by rw [he, ← word_empty]; rfl, by first | exact below_alloc _ _ | exact (below_alloc (Below.refl _ _) _).drew | exact Below.drew (below_alloc (Below.refl _ _) _)⟩
end Go.Proofs.YtcejdokeaoklaaaDoor.PImp

/-! What a name is parted into: over lists of bytes. No program in sight. -/
namespace Go.Proofs.YtcejdokeaoklaaaDoor.Imp
open Go.Proofs.YtcejdokeaoklaaaDoor.PImp
/-- What stands between the slashes. -/
def pieces : List UInt8 → List (List UInt8)
  | [] => [[]]
  | c :: l => if c = 47 then [] :: pieces l else match pieces l with
    | [] => [[c]]
    | p :: ps => (c :: p) :: ps
theorem pieces_ne : ∀ l, pieces l ≠ []
  | [] => by simp [pieces]
  | c :: l => by
    unfold pieces
    split
    · simp
    · split <;> simp
theorem pieces_miss : ∀ {l : List UInt8}, (∀ x ∈ l, x ≠ 47) → pieces l = [l]
  | [], _ => rfl
  | c :: l, h => by
    unfold pieces
    rw [if_neg (h c (by simp)), pieces_miss (fun x hx => h x (by simp [hx]))]
theorem pieces_hit : ∀ {a b : List UInt8}, (∀ x ∈ a, x ≠ 47) → pieces (a ++ 47 :: b) = a :: pieces b
  | [], b, _ => by simp [pieces]
  | c :: a, b, h => by
    show pieces (c :: (a ++ 47 :: b)) = _
    rw [pieces, if_neg (h c (by simp)), pieces_hit (fun x hx => h x (by simp [hx]))]
def wordL (l : List UInt8) : Bool := l.all wordB && !l.isEmpty
theorem wordOf_eq (s : ByteArray) : wordOf s = wordL s.data.toList := by
  unfold wordOf wordL
  congr 1
  cases e : s.data.toList with
  | nil =>
    have : s.size = 0 := by rw [← ByteArray.size_data, ← Array.length_toList, e]; rfl
    simp [this]
  | cons a l =>
    have : s.size ≠ 0 := by rw [← ByteArray.size_data, ← Array.length_toList, e]; simp
    simp [this]
theorem splitK_pieces : ∀ (k : Nat) (l : List UInt8), l.count 47 = k → Lib.splitK [47] 0 k l = pieces l
  | 0, l, h => by
    have : ∀ x ∈ l, x ≠ 47 := fun x hx e => by subst e; exact absurd h (Nat.ne_of_gt (List.count_pos_iff.2 hx))
    rw [pieces_miss this]
    rfl
  | k + 1, l, h => by
    have hm : (47 : UInt8) ∈ l := List.count_pos_iff.1 (by omega)
    unfold Lib.splitK
    rw [Lib.index_one]
    have hge := Lib.indexByte_ge l 47
    have hne : Lib.indexByte l 47 ≠ -1 := fun e => by
      obtain ⟨i, hi⟩ := List.getElem?_of_mem hm
      exact Lib.indexByte_none e i hi
    obtain ⟨o, ho⟩ : ∃ o : Nat, Lib.indexByte l 47 = o := ⟨(Lib.indexByte l 47).toNat, by omega⟩
    obtain ⟨h1, h2⟩ := Lib.indexByte_some ho
    rw [ho, if_neg (by simp)]
    have hlt : o < l.length := (List.getElem?_eq_some_iff.1 h1).1
    have e1 : l = l.take o ++ 47 :: l.drop (o + 1) := by
      have : l.drop o = 47 :: l.drop (o + 1) := by
        rw [List.drop_eq_getElem_cons hlt, (List.getElem?_eq_some_iff.1 h1).2]
      rw [← this, List.take_append_drop]
    have hn : ∀ x ∈ l.take o, x ≠ 47 := fun x hx e => by
      subst e
      obtain ⟨i, hi, he⟩ := List.mem_iff_getElem.1 hx
      rw [List.length_take] at hi
      rw [List.getElem_take] at he
      exact h2 i (by omega) (by rw [List.getElem?_eq_getElem (by omega), he])
    have hc : (l.drop (o + 1)).count 47 = k := by
      rw [e1, List.count_append, List.count_cons_self, List.count_eq_zero.2 (fun hx => hn 47 hx rfl)] at h
      omega
    show l.take ((o : Int).toNat + 0) :: Lib.splitK [47] 0 k (l.drop ((o : Int).toNat + 1)) = pieces l
    rw [splitK_pieces k (l.drop ((o : Int).toNat + 1)) (by simpa using hc)]
    conv => rhs; rw [e1, pieces_hit hn]
    simp
/-- What strings.Split gives. -/
theorem splitB_pieces (s : ByteArray) : (Lib.splitB ⟨#[47]⟩ 0 (Lib.countB s ⟨#[47]⟩) s).map (·.data.toList) = pieces s.data.toList := by
  rw [Lib.splitB_data]
  exact splitK_pieces _ _ (by show _ = Lib.count s.data.toList [47]; rw [Lib.count_one])
def lastPiece (l : List UInt8) : List UInt8 := (pieces l).getLast (pieces_ne l)
theorem lastPiece_hit {a b : List UInt8} (h : ∀ x ∈ a, x ≠ 47) : lastPiece (a ++ 47 :: b) = lastPiece b := by
  unfold lastPiece
  simp only [pieces_hit h]
  exact List.getLast_cons (pieces_ne b)
theorem lastPiece_miss {l : List UInt8} (h : ∀ x ∈ l, x ≠ 47) : lastPiece l = l := by
  unfold lastPiece
  simp only [pieces_miss h]
  rfl
/-- A list holds no slash, or parts at its first. -/
theorem slash_cases (l : List UInt8) : (∀ x ∈ l, x ≠ 47) ∨ ∃ a b, l = a ++ 47 :: b ∧ ∀ x ∈ a, x ≠ 47 := by
  induction l with
  | nil => exact .inl (by simp)
  | cons c l ih =>
    by_cases e : c = 47
    · exact .inr ⟨[], l, by rw [e]; rfl, by simp⟩
    · rcases ih with h | ⟨a, b, rfl, h⟩
      · exact .inl (fun x hx => (List.mem_cons.1 hx).elim (fun e1 => by rw [e1]; exact e) (h x))
      · exact .inr ⟨c :: a, b, rfl, fun x hx => (List.mem_cons.1 hx).elim (fun e1 => by rw [e1]; exact e) (h x)⟩
theorem slash_rec {P : List UInt8 → Prop} (h0 : ∀ l, (∀ x ∈ l, x ≠ 47) → P l) (h1 : ∀ a b, (∀ x ∈ a, x ≠ 47) → P b → P (a ++ 47 :: b)) : ∀ (n : Nat) (l : List UInt8), l.length ≤ n → P l
  | 0, l, h => h0 l (fun x hx => by have := List.length_pos_of_mem hx; omega)
  | n + 1, l, h => by
    rcases slash_cases l with h2 | ⟨a, b, rfl, h2⟩
    · exact h0 l h2
    · exact h1 a b h2 (slash_rec h0 h1 n b (by simp at h; omega))
theorem lastPiece_no (l : List UInt8) : ∀ x ∈ lastPiece l, x ≠ 47 :=
  slash_rec (P := fun l => ∀ x ∈ lastPiece l, x ≠ 47) (fun l h => by rw [lastPiece_miss h]; exact h) (fun a b h ih => by rw [lastPiece_hit h]; exact ih) l.length l (Nat.le_refl _)
/-- Two pieces or more: a folder, a slash, the last piece. -/
theorem lastPiece_cut (l : List UInt8) : 2 ≤ (pieces l).length → ∃ pre, l = pre ++ 47 :: lastPiece l ∧ (pre = [] → ([] : List UInt8) ∈ pieces l) :=
  slash_rec (P := fun l => 2 ≤ (pieces l).length → ∃ pre, l = pre ++ 47 :: lastPiece l ∧ (pre = [] → ([] : List UInt8) ∈ pieces l)) (fun l h => by rw [pieces_miss h]; intro h; simp at h) (fun a b h ih => by
    intro _
    rw [lastPiece_hit h, pieces_hit h]
    by_cases hb : 2 ≤ (pieces b).length
    · obtain ⟨pre, e, _⟩ := ih hb
      refine ⟨a ++ 47 :: pre, ?_, fun e => by simp at e⟩
      conv => lhs; rw [e]
      simp
    · refine ⟨a, ?_, fun e => by simp [e]⟩
      have h1 : (pieces b).length = 1 := by have := List.length_pos_iff.2 (pieces_ne b); omega
      rcases slash_cases b with h2 | ⟨c, d, rfl, h2⟩
      · rw [lastPiece_miss h2]
      · rw [pieces_hit h2] at h1
        have := List.length_pos_iff.2 (pieces_ne d)
        rw [List.length_cons] at h1
        omega) l.length l (Nat.le_refl _)
/-- May a name be? -/
def okName (l : List UInt8) : Bool := decide (l.length ≤ 32) && decide (3 ≤ l.length) && decide (l.drop (l.length - 3) = [46, 103, 111]) && decide (2 ≤ (pieces (l.take (l.length - 3))).length) && (pieces (l.take (l.length - 3))).all wordL
def cutAt (l : List UInt8) : Nat := l.length - 3 - 1 - (lastPiece (l.take (l.length - 3))).length
/-- WHAT Split ANSWERS. -/
def splitF (s : ByteArray) : ByteArray × ByteArray × Int := if okName s.data.toList = true then (s.extract 0 (cutAt s.data.toList), s.extract (cutAt s.data.toList + 1) s.size, 0) else (⟨#[]⟩, ⟨#[]⟩, 130)
theorem okName_cases {l : List UInt8} (h : okName l = true) : l.length ≤ 32 ∧ 3 ≤ l.length ∧ l.drop (l.length - 3) = [46, 103, 111] ∧ 2 ≤ (pieces (l.take (l.length - 3))).length ∧ ∀ p ∈ pieces (l.take (l.length - 3)), wordL p = true := by
  unfold okName at h
  simp only [Bool.and_eq_true, decide_eq_true_eq, List.all_eq_true] at h
  obtain ⟨⟨⟨⟨h1, h2⟩, h3⟩, h4⟩, h5⟩ := h
  exact ⟨h1, h2, h3, h4, h5⟩
/-- A name that may be: where it is cut, a slash stands, and none behind it; the folder is not empty. -/
theorem okName_cut {l : List UInt8} (h : okName l = true) : ∃ pre suf, l = pre ++ 47 :: suf ∧ pre.length = cutAt l ∧ (∀ x ∈ suf, x ≠ 47) ∧ pre ≠ [] := by
  obtain ⟨h1, h2, h3, h4, h5⟩ := okName_cases h
  obtain ⟨pre, e, hp⟩ := lastPiece_cut _ h4
  have hl : l = l.take (l.length - 3) ++ l.drop (l.length - 3) := (List.take_append_drop _ _).symm
  have hlen : (l.take (l.length - 3)).length = l.length - 3 := by rw [List.length_take]; omega
  have hlen2 := congrArg List.length e
  rw [hlen] at hlen2
  simp only [List.length_append, List.length_cons] at hlen2
  refine ⟨pre, lastPiece (l.take (l.length - 3)) ++ [46, 103, 111], ?_, ?_, ?_, ?_⟩
  · rw [h3] at hl
    conv => lhs; rw [hl, e]
    simp
  · unfold cutAt; omega
  · intro x hx
    rcases List.mem_append.1 hx with hx | hx
    · exact lastPiece_no _ x hx
    · simp at hx
      rcases hx with rfl | rfl | rfl <;> decide
  · intro e0
    have := h5 [] (hp e0)
    simp [wordL] at this
end Go.Proofs.YtcejdokeaoklaaaDoor.Imp
