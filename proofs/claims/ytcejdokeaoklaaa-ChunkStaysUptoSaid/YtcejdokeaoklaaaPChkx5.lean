-- Written by a program of this session (wip/tools/printseat.sh).
import Derived.Test.YtcejdokeaoklaaaPChkx0
import Derived.Test.YtcejdokeaoklaaaPChkx3
import Derived.Test.YtcejdokeaoklaaaPChkx4
namespace Go.Proofs.Ytcejdokeaoklaaa.PChk
open Go.RowKit Go.Proofs.YtcejdokeaoklaaaW.PrintWords Go.Proofs.YtcejdokeaoklaaaW.PrintLast Go.Proofs.YtcejdokeaoklaaaW.PrintMore
attribute [local go_sem] max2_int min2_int max_two min_two max_three min_three max_four min_four   -- for this text's walks alone
set_option linter.unusedVariables false
set_option linter.unusedSimpArgs false

/-! ### chunk_Kind: function 13 -/
-- BY HAND


/-- The closure of chunk.Kind: is a token significant? -/
theorem sig_calls (t : S25) (w : World) :
    Calls Try.prog 24 #[.agg #[.int .i64 t.f0, .int .i64 t.f1, .int .i64 t.f2]] w fun e w' => e = .returned (.bool (!triv t.f0)) ∧ Below w.heap.size w w' := by
  have HT := Aside0.mk (trivia_f t.f0)
  go_enter Try.func24, Try.ntmps24
  go_wp2_with (go_at_call 25; refine (token_Trivia.calls _ _ _ HT.out).mono ?_; rintro e w1 ⟨rfl, ⟨m1, rfl⟩⟩)
  go_ret
  exact ⟨rfl, by first | exact ((Below.refl _ _).alloc (Nat.le_refl _) _) | (repeat (first | (with_reducible first | exact Below.refl _ _ | apply below_alloc | apply pw_below_drewN | apply below_drew1)))⟩

/-- Where the first significant token stands; -1: nowhere. -/
def sigAt (l : List S25) : Int := match l.findIdx? (fun t => !triv t.f0) with
  | none => -1
  | some j => (j : Int)

theorem findIdx_lt {α : Type} {p : α → Bool} {l : List α} {j : Nat} (h : l.findIdx? p = some j) : j < l.length := by
  rw [List.findIdx?_eq_some_iff_getElem] at h
  exact h.1

set_option maxHeartbeats 1000000 in
theorem index_calls (A : Option Addr) (c : Nat) (l : List S25) (w : World) (hlen : l.length < 5864062014805) (hr : Kd.C k25 w A l.length l) :
    Calls Try.prog 23 #[.slice A l.length c, .func (.func 24) #[] #[]] w fun e w' => e = .returned (.int .i64 (sigAt l)) ∧ Below w.heap.size w w' := by
  go_enter Try.func23, Try.ntmps23
  go_wp2
  go_loopw [8] (fun v8 wr => ∃ j : Nat, v8 = .int .i64 j ∧ j ≤ l.length ∧ Aside0 (∀ i (h : i < l.length), i < j → (!triv l[i].f0) = false) ∧ Below w.heap.size w wr) (fun v8 _ => l.length - (intOf v8).toNat)
  case atStart => exact ⟨0, rfl, Nat.zero_le _, ⟨fun i _ h => by omega⟩, Below.refl _ _⟩
  case round =>
    obtain ⟨j, rfl, hj, hno, hb⟩ := hrel
    by_cases hlt : j < l.length
    · have hr1 := Kd.C_below hr hb
      obtain ⟨ad, rfl, h0, h1, h2⟩ := at_T25 hr1 (j : Int) (by omega) (by omega)
      rw [rd25 hlt] at h0 h1 h2
      simp only [Int.toNat_natCast] at h0 h1 h2
      clear hr1
      cases ht : !triv l[j].f0 with
      | true =>
        have HS := sig_calls l[j]
        rw [ht] at HS
        have HT := Aside0.mk ht
        clear ht
        have HC := Aside0.mk HS
        clear HS
        go_wp2_with (go_at_call 24; refine (HC.out _).mono ?_; rintro e w1 ⟨rfl, hb1⟩)
        go_ret
        refine ⟨?_, hb.trans (hb1.mono hb.size)⟩
        have : l.findIdx? (fun t => !triv t.f0) = some j := by
          rw [List.findIdx?_eq_some_iff_getElem]
          exact ⟨hlt, HT.out, fun i hi => by rw [hno.out i (by omega) hi]; simp⟩
        simp [sigAt, this]
      | false =>
        have HS := sig_calls l[j]
        rw [ht] at HS
        have HT := Aside0.mk ht
        clear ht
        have HC := Aside0.mk HS
        clear HS
        go_wp2_with (go_at_call 24; refine (HC.out _).mono ?_; rintro e w1 ⟨rfl, hb1⟩)
        go_roundw
        case rel => exact ⟨j + 1, by simp, by omega, ⟨fun i h hi => by
          by_cases e : i = j
          · subst e; exact HT.out
          · exact hno.out i h (by omega)⟩, hb.trans (hb1.mono hb.size)⟩
        case measure => simp [intOf]; omega
    · go_wp2
      go_ret
      refine ⟨?_, hb⟩
      have : l.findIdx? (fun t => !triv t.f0) = none := by
        rw [List.findIdx?_eq_none_iff]
        intro t ht
        obtain ⟨i, hi, rfl⟩ := List.getElem_of_mem ht
        exact hno.out i hi (by omega)
      simp [sigAt, this]

theorem first_cell (w : World) (cs : Array Value) (t : TypeId) (v : Value) (h : cs[0]? = some v) : (w.alloc (.cells cs t)).cell? ⟨w.heap.size, 0, none⟩ = some v := by
  have h0 : (w.alloc (.cells cs t)).heap[w.heap.size]? = some (.cells cs t (0, 0)) := by
    show (w.heap.push _)[w.heap.size]? = _
    simp
  rw [blk_cell h0 0]
  exact h

/-- The kind of the first significant token of a row; 0: there is none, or the row is none. -/
def kindG (l : List S25) (a b : Int) : Int :=
  if a < 0 ∨ b < a ∨ (l.length : Int) < b then 0 else match ((l.take b.toNat).drop a.toNat).find? (fun t => !triv t.f0) with
    | none => 0
    | some t => t.f0
def chunk_Kind.f (l0 : List S25) (a1_0 a1_1 : Int) : Option Int := if l0.length < 5864062014805 then some (kindG l0 a1_0 a1_1) else none

set_option maxHeartbeats 2000000 in
theorem chunk_Kind.calls (A0 : Option Addr) (c0 : Nat) (l0 : List (S25)) (a1_0 : Int) (a1_1 : Int) (r : Int) (w : World) (hr0 : Kd.C k25 w A0 l0.length l0) (hc0 : l0.length ≤ c0) (h : chunk_Kind.f l0 a1_0 a1_1 = some r) :
    Calls Try.prog 13 #[.slice A0 l0.length c0, .agg #[.int .i64 a1_0, .int .i64 a1_1]] w fun e w' => e = .returned (.int .i64 r) ∧ Below w.heap.size w w' := by
  have hl : l0.length < 5864062014805 := by unfold chunk_Kind.f at h; split at h <;> first | assumption | cases h
  have hr : kindG l0 a1_0 a1_1 = r := by unfold chunk_Kind.f at h; rw [if_pos hl] at h; exact Option.some.inj h
  clear h
  by_cases c1 : a1_0 < 0
  · obtain rfl : 0 = r := by rw [← hr]; unfold kindG; rw [if_pos (.inl c1)]
    clear hr
    go_enter Try.func13, Try.ntmps13
    go_wp2
    go_ret
    exact ⟨rfl, (Below.refl _ _).alloc (Nat.le_refl _) _⟩
  · by_cases c2 : a1_1 < a1_0
    · obtain rfl : 0 = r := by rw [← hr]; unfold kindG; rw [if_pos (.inr (.inl c2))]
      clear hr
      go_enter Try.func13, Try.ntmps13
      go_wp2
      go_ret
      exact ⟨rfl, (Below.refl _ _).alloc (Nat.le_refl _) _⟩
    · by_cases c3 : (l0.length : Int) < a1_1
      · obtain rfl : 0 = r := by rw [← hr]; unfold kindG; rw [if_pos (.inr (.inr c3))]
        clear hr
        go_enter Try.func13, Try.ntmps13
        go_wp2
        go_ret
        exact ⟨rfl, (Below.refl _ _).alloc (Nat.le_refl _) _⟩
      · obtain ⟨i0, hi0, _, hsz, _⟩ := info_parts info25
        obtain ⟨a, rfl⟩ : ∃ a : Nat, a1_0 = a := ⟨a1_0.toNat, by omega⟩
        obtain ⟨b, rfl⟩ : ∃ b : Nat, a1_1 = b := ⟨a1_1.toNat, by omega⟩
        have hcut := cut_mid (P := Try.prog) 22 25 .i64 .i64 Try.underlying22 hi0 3 hsz A0 l0.length c0 (a : Int) (b : Int) (by omega) (by omega) (by omega) hc0
        have hC := Kd.C_mid (lo := a) (hi := b) (c := c0) hr0 (by omega) (by omega) hc0
        simp only [Int.toNat_natCast] at hcut
        have hmid : kindG l0 (a : Int) (b : Int) = match ((l0.take b).drop a).find? (fun t => !triv t.f0) with | none => 0 | some t => t.f0 := by
          unfold kindG
          rw [if_neg (by omega)]
          simp only [Int.toNat_natCast]
        rw [hmid] at hr
        clear hmid
        have hel : ∀ j, j < b - a → ∃ h : a + j < l0.length, ((l0.take b).drop a)[j]? = some l0[a + j] := by
          intro j hj
          refine ⟨by omega, ?_⟩
          rw [List.getElem?_drop, List.getElem?_take, if_pos (by omega), List.getElem?_eq_getElem (by omega)]
        have HEL := Aside0.mk hel
        clear hel
        obtain ⟨A1, hA1⟩ : ∃ A1, A1 = (if c0 = a then A0 else A0.map (·.add (a * 3))) := ⟨_, rfl⟩
        have hC1 : Kd.C k25 w A1 ((l0.take b).drop a).length ((l0.take b).drop a) := by rw [hA1]; exact hC
        obtain ⟨m, hm⟩ : ∃ m, m = (l0.take b).drop a := ⟨_, rfl⟩
        obtain ⟨c1, hc1⟩ : ∃ c1, c1 = c0 - a := ⟨_, rfl⟩
        have hml : m.length = b - a := by rw [hm, List.length_drop, List.length_take]; omega
        have hml' : m.length < 5864062014805 := by omega
        rw [← hm] at hC1 hr HEL
        rw [← hA1, ← hml, ← hc1] at hcut
        have HC := Aside0.mk hC1
        have HR := Aside0.mk hr
        have HM := Aside0.mk hml
        clear hC hC1 hm hA1 hc1 hr hml hi0 hsz
        cases hf : m.findIdx? (fun t => !triv t.f0) with
        | none =>
          have hs : sigAt m = -1 := by simp [sigAt, hf]
          have hi := fun W => index_calls A1 c1 m W hml'
          rw [hs] at hi
          have HI := Aside0.mk hi
          have HF := Aside0.mk hf
          clear hi hs hf
          go_enter Try.func13, Try.ntmps13
          go_wp2_with (go_at_call 23; refine (HI.out _ (Kd.C_below HC.out ((Below.refl _ _).alloc (Nat.le_refl _) _))).mono ?_; rintro e w1 ⟨rfl, hb1⟩)
          go_ret
          refine ⟨?_, ((Below.refl _ _).alloc (Nat.le_refl _) _).trans (hb1.mono (by simp))⟩
          have h1 : m.find? (fun t => !triv t.f0) = none := by
            rw [List.find?_eq_none]; rw [List.findIdx?_eq_none_iff] at HF; intro t ht; simpa using HF.out t ht
          have := HR.out
          rw [h1] at this
          simp only at this
          subst this
          rfl
        | some j =>
          have hs : sigAt m = (j : Int) := by simp [sigAt, hf]
          have hi := fun W => index_calls A1 c1 m W hml'
          rw [hs] at hi
          have HI := Aside0.mk hi
          have hjm := findIdx_lt hf
          have HF := Aside0.mk hf
          obtain ⟨haj, hme⟩ := HEL.out j (by have := HM.out; omega)
          have HME := Aside0.mk hme
          clear hi hs hf hme
          go_enter Try.func13, Try.ntmps13
          go_wp2_with (go_at_call 23; refine (HI.out _ (Kd.C_below HC.out ((Below.refl _ _).alloc (Nat.le_refl _) _))).mono ?_; rintro e w1 ⟨rfl, hb1⟩; have hx0 := (hb1.cell (p := ⟨w.heap.size, 0, none⟩) (by simp)).trans (first_cell w _ _ _ rfl); obtain ⟨ad, rfl, h0, _, _⟩ := at_T25 (Kd.C_below hr0 (((Below.refl _ _).alloc (Nat.le_refl _) _).trans (hb1.mono (by simp)))) ((a + j : Nat) : Int) (by omega) (by omega); rw [rd25 haj] at h0; simp only [Int.toNat_natCast] at h0)
          go_ret
          refine ⟨?_, ((Below.refl _ _).alloc (Nat.le_refl _) _).trans (hb1.mono (by simp))⟩
          obtain ⟨h1, h2, h3⟩ := List.findIdx?_eq_some_iff_getElem.1 HF.out
          have h4 : m[j] = l0[a + j] := by have := HME.out; rw [List.getElem?_eq_getElem h1] at this; exact Option.some.inj this
          have h5 : m.find? (fun t => !triv t.f0) = some l0[a + j] := by
            rw [List.find?_eq_some_iff_getElem]
            exact ⟨by rw [← h4]; exact h2, j, h1, h4, fun i hi => by simpa using h3 i hi⟩
          have := HR.out
          rw [h5] at this
          simp only at this
          subst this
          rfl


end Go.Proofs.Ytcejdokeaoklaaa.PChk
