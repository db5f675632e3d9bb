import Derived.Test.YtcejdokeaoklaaaDoorPImpx0
import Derived.Laws.IdiomStrings
/-! imports.isWord: 'range []byte(s)'. -/
namespace Go.Proofs.YtcejdokeaoklaaaDoor.PImp
open Go.RowKit Go.Proofs.YtcejdokeaoklaaaDoorW.PrintWords Go.Proofs.YtcejdokeaoklaaaDoorW.PrintLast Go.Proofs.YtcejdokeaoklaaaDoorW.PrintMore
/-- A byte of a word. -/
def wordB (b : UInt8) : Bool := (decide (97 ≤ b.toNat) && decide (b.toNat ≤ 122)) || (decide (48 ≤ b.toNat) && decide (b.toNat ≤ 57)) || decide (b.toNat = 95)
def wordOf (s : ByteArray) : Bool := s.data.toList.all wordB && decide (s.size ≠ 0)
theorem bytesRow_at (s : ByteArray) (c i : Nat) (h : i < s.size) : (bytesRow s c)[i]? = some (.int .u8 (s[i].toNat : Int)) := by
  unfold bytesRow
  rw [Array.getElem?_append_left (by simpa using h)]
  simp [h]
  try rfl
theorem wordB_int (b : UInt8) : wordB b = ((decide (97 ≤ (b.toNat : Int)) && decide ((b.toNat : Int) ≤ 122)) || (decide (48 ≤ (b.toNat : Int)) && decide ((b.toNat : Int) ≤ 57)) || decide ((b.toNat : Int) = 95)) := by
  unfold wordB
  rw [show decide (97 ≤ b.toNat) = decide (97 ≤ (b.toNat : Int)) from by simp only [decide_eq_decide]; omega, show decide (b.toNat ≤ 122) = decide ((b.toNat : Int) ≤ 122) from by simp only [decide_eq_decide]; omega, show decide (48 ≤ b.toNat) = decide (48 ≤ (b.toNat : Int)) from by simp only [decide_eq_decide]; omega, show decide (b.toNat ≤ 57) = decide ((b.toNat : Int) ≤ 57) from by simp only [decide_eq_decide]; omega, show decide (b.toNat = 95) = decide ((b.toNat : Int) = 95) from by simp only [decide_eq_decide]; omega]
theorem isWord_end (s : ByteArray) (i : Nat) (hi : i < s.size) (h : wordB s[i] = false) : wordOf s = false := by
  unfold wordOf
  rw [Bool.and_eq_false_iff]
  refine .inl ?_
  rw [List.all_eq_false]
  have hm : s.data[i]'hi ∈ s.data.toList := Array.mem_toList_iff.mpr (Array.getElem_mem hi)
  exact ⟨s.data[i]'hi, hm, by rw [show s.data[i]'hi = s[i] from rfl, h]; decide⟩
theorem isWord_all (s : ByteArray) (h : ∀ j (h : j < s.size), wordB s[j] = true) : wordOf s = decide (s.size ≠ 0) := by
  unfold wordOf
  rw [show s.data.toList.all wordB = true from ?_, Bool.true_and]
  rw [List.all_eq_true]
  intro x hx
  obtain ⟨j, hj, rfl⟩ := Array.mem_iff_getElem.mp (Array.mem_toList_iff.mp hx)
  exact h j hj
theorem word_empty (s : ByteArray) : (!s.toList.isEmpty) = decide (s.size ≠ 0) := by
  have h : s.toList.length = s.size := by rw [ByteArray.toList_eq]; exact Array.length_toList
  cases e : s.toList with
  | nil => rw [e] at h; simp at h; simp [← h]
  | cons a l => rw [e] at h; simp at h; simp [← h]
theorem wb_no {c : Int} {x1 x2 x3 x4 x5 : Bool} (b1 : decide (97 ≤ c) = x1) (b2 : decide (c ≤ 122) = x2) (b3 : decide (48 ≤ c) = x3) (b4 : decide (c ≤ 57) = x4) (b5 : decide (c = 95) = x5)
    (h : ((x1 && (!x3 || x4 || x5)) || (x4 && (!x2 || x1 || x5)) || (x5 && (!x3 || !x2 || x1 || x4)) || (!x2 && !x1) || (!x3 && !x4)) = true) : False := by
  subst b1 b2 b3 b4 b5
  simp only [Bool.or_eq_true, Bool.and_eq_true, decide_eq_true_eq, Bool.not_eq_true', decide_eq_false_iff_not] at h
  omega
set_option maxHeartbeats 8000000 in
set_option maxRecDepth 100000 in
theorem imports_isWord.walk (s : ByteArray) (w : World) (hs : s.size < 4611686018427387904) :
    Calls Tryd.prog 24 #[.string s] w fun e w' => e = .returned (.bool (wordOf s)) ∧ Below w.heap.size w w' := by
  have hconv := run_bytes_of_string (P := Tryd.prog) w 9 72 5 s Tryd.underlying9 Tryd.underlying72 Tryd.underlying5
  have hrow := bytesRow_at s (grownCap w s.size 0 5)
  generalize grownCap w s.size 0 5 = cap at hconv hrow
  generalize bytesRow s cap = C at hconv hrow
  go_enter Tryd.func24, Tryd.ntmps24
  go_wp2
  have hcell : ∀ (i : Nat) (h : i < s.size), (w.alloc (.cells C 5 (C.size, C.size + 1))).cell? ⟨w.heap.size, i, none⟩ = some (.int .u8 (s[i].toNat : Int)) := by
    intro i h
    rw [World.cell?_alloc_mark, hrow i h]
  have hfz : ∀ (i : Nat) (h : i < s.size), (w.alloc (.cells C 5 (C.size, C.size + 1))).frozen? ⟨w.heap.size, i, none⟩ = false := by
    intro i h
    have : i < C.size := (Array.getElem?_eq_some_iff.mp (hrow i h)).1
    rw [World.frozen?_alloc_mark, decide_eq_false (by omega)]
    rfl
  go_loopg [8] s.size (fun kq v8 w' => ∃ (i : Nat), v8 = .int .i64 (i : Int) ∧ i + kq = s.size ∧ Aside0 (∀ j (h : j < s.size), j < i → wordB s[j] = true) ∧ w' = (w.alloc (.cells C 5 (C.size, C.size + 1))).drew)
  case atStart => exact ⟨0, rfl, by omega, ⟨fun j h h2 => absurd h2 (Nat.not_lt_zero _)⟩, rfl⟩
  case round =>
    obtain ⟨i, rfl, hk, HW, rfl⟩ := hrel
    by_cases hi : i < s.size
    · have hb0 : decide ((i : Int) < (s.size : Int)) = true := decide_eq_true (by omega)
      have hc := hcell i hi
      have hz := hfz i hi
      have hw := wordB_int s[i]
      have hend := isWord_end s i hi
      have hnext : wordB s[i] = true → ∀ j (h : j < s.size), j < i + 1 → wordB s[j] = true := by
        intro h j hj hlt
        by_cases e : j = i
        · subst e; exact h
        · exact HW.out j hj (by omega)
      generalize hcc : (s[i].toNat : Int) = c at hc hw
      cases hv : wordB s[i]
      · have he := hend hv
        rw [hv] at hw
        cases b1 : decide (97 ≤ c) <;> cases b2 : decide (c ≤ 122) <;> cases b3 : decide (48 ≤ c) <;> cases b4 : decide (c ≤ 57) <;> cases b5 : decide (c = 95)
        all_goals first
          | exact (wb_no b1 b2 b3 b4 b5 rfl).elim
          | (rw [b1, b2, b3, b4, b5] at hw; exact absurd hw (by decide))
          | skip
        all_goals
          have b6 := (show (c == 95) = decide (c = 95) from by by_cases h : c = 95 <;> simp [h]).trans b5
          clear hw hend hnext hv
          go_wp2
          go_ret
          exact ⟨by rw [he]; rfl, by first | exact below_alloc _ _ | exact (below_alloc _ _).drew | exact (below_alloc (Below.refl _ _) _).drew | exact Below.drew (below_alloc (Below.refl _ _) _)⟩
      · have he := hnext hv
        rw [hv] at hw
        cases b1 : decide (97 ≤ c) <;> cases b2 : decide (c ≤ 122) <;> cases b3 : decide (48 ≤ c) <;> cases b4 : decide (c ≤ 57) <;> cases b5 : decide (c = 95)
        all_goals first
          | exact (wb_no b1 b2 b3 b4 b5 rfl).elim
          | (rw [b1, b2, b3, b4, b5] at hw; exact absurd hw (by decide))
          | skip
        all_goals
          have b6 := (show (c == 95) = decide (c = 95) from by by_cases h : c = 95 <;> simp [h]).trans b5
          clear hw hend hnext hv
          go_wp2
          go_roundg (gk - 1)
          case measure => omega
          case rel => exact ⟨i + 1, rfl, by omega, ⟨he⟩, rfl⟩
    · have hb0 : decide ((i : Int) < (s.size : Int)) = false := decide_eq_false (by omega)
      have he := isWord_all s (fun j hj => HW.out j hj (by omega))
      go_wp2
      go_ret
      exact ⟨by rw [he, ← word_empty]; rfl, by first | exact below_alloc _ _ | exact (below_alloc (Below.refl _ _) _).drew | exact Below.drew (below_alloc (Below.refl _ _) _)⟩
end Go.Proofs.YtcejdokeaoklaaaDoor.PImp
