-- Written by a program of this session (wip/tools/printseat.sh).
import Derived.Test.YtcejdokeaoklaaaPChkx0
import Derived.Test.YtcejdokeaoklaaaPChkx3
import Derived.RangeFuncNested
import Derived.RangeFuncBound
import Derived.RangeFuncCalls
import Derived.RangeFuncLeaves
import Derived.RangeFuncBox
import Derived.Shelf.Abstract
import Derived.OwnWalkIn
import Derived.TacticsInMore
import Derived.LoopNIn
import Derived.LoopIn
import Derived.WalkSmall
import Derived.Maps.AppendAt
namespace Go.Proofs.Ytcejdokeaoklaaa.PChk
open Go.RowKit Go.Proofs.YtcejdokeaoklaaaW.PrintWords Go.Proofs.YtcejdokeaoklaaaW.PrintLast Go.Proofs.YtcejdokeaoklaaaW.PrintMore
attribute [local go_sem] max2_int min2_int max_two min_two max_three min_three max_four min_four   -- for this text's walks alone
set_option linter.unusedVariables false
set_option linter.unusedSimpArgs false

/-! ### chunk_Cut: function 10 -/
-- BY HAND


def triv (a : Int) : Bool := decide (1 ≤ a) && decide (a ≤ 5)
def opens (a : Int) : Bool := a == 57 || a == 58 || a == 59
def closes (a : Int) : Bool := a == 62 || a == 63 || a == 64
def semis (a : Int) : Bool := a == 15 || a == 16

/-- How many tokens the region that begins here has; whether one of them is significant (or s). -/
def regEnd : List S25 → Nat → Bool → Nat × Bool
  | [], _, s => (0, s)
  | t :: ts, d, s =>
    if opens t.f0 = true then ((regEnd ts (d + 1) (s || !triv t.f0)).1 + 1, (regEnd ts (d + 1) (s || !triv t.f0)).2)
    else if closes t.f0 = true then ((regEnd ts (d - 1) (s || !triv t.f0)).1 + 1, (regEnd ts (d - 1) (s || !triv t.f0)).2)
    else if (semis t.f0 && d == 0) = true then (1, s || !triv t.f0)
    else ((regEnd ts d (s || !triv t.f0)).1 + 1, (regEnd ts d (s || !triv t.f0)).2)

theorem regEnd_le (ts : List S25) : ∀ d s, (regEnd ts d s).1 ≤ ts.length := by
  induction ts with
  | nil => intro d s; simp [regEnd]
  | cons t ts ih =>
    intro d s
    simp only [regEnd, List.length_cons]
    split
    · have := ih (d + 1) (s || !triv t.f0); simp only; omega
    · split
      · have := ih (d - 1) (s || !triv t.f0); simp only; omega
      · split
        · simp only; omega
        · have := ih d (s || !triv t.f0); simp only; omega

theorem regEnd_pos {ts : List S25} (h : ts ≠ []) : ∀ d s, 0 < (regEnd ts d s).1 := by
  intro d s
  cases ts with
  | nil => exact absurd rfl h
  | cons t ts =>
    simp only [regEnd]
    split
    · simp
    · split
      · simp
      · split <;> simp

theorem trivia_f (a : Int) : token_Trivia.f a = some (triv a) := by
  unfold token_Trivia.f triv
  by_cases h : 1 ≤ a
  · simp [h]
  · simp [h]

theorem rd25 {l : List S25} {n : Nat} (h : n < l.length) : rd_T25 l (n : Int) = l[n] := by
  simp [rd_T25, List.getD, h]

theorem wrap_small {x : Int} (h0 : -9223372036854775808 ≤ x) (h1 : x < 9223372036854775808) : wrap64 x = x := by
  unfold wrap64
  omega

theorem end_l0 (l : List S25) (hl : l.length < 5864062014805) : ∀ (n at_ d : Nat) (s : Bool) (k : Nat), l.length - at_ = n → at_ ≤ l.length → d ≤ at_ → 5 * n + 1 ≤ k →
    chunk_end.l0 k l (d : Int) (at_ : Int) s = some (((at_ + (regEnd (l.drop at_) d s).1 : Nat) : Int), (regEnd (l.drop at_) d s).2) := by
  intro n
  induction n with
  | zero =>
    intro at_ d s k hn ha hd hk
    obtain ⟨k, rfl⟩ : ∃ m, k = m + 1 := ⟨k - 1, by omega⟩
    have e : at_ = l.length := by omega
    subst e
    simp only [chunk_end.l0]
    rw [if_neg (by omega), List.drop_length]
    simp [regEnd]
  | succ n ih =>
    intro at_ d s k hn ha hd hk
    obtain ⟨k, rfl⟩ : ∃ m, k = m + 5 := ⟨k - 5, by omega⟩
    have hlt : at_ < l.length := by omega
    have hdrop : l.drop at_ = l[at_] :: l.drop (at_ + 1) := List.drop_eq_getElem_cons hlt
    have hw : wrap64 ((at_ : Int) + 1) = ((at_ + 1 : Nat) : Int) := by rw [wrap_small (by omega) (by omega)]; simp
    have hwd : wrap64 ((d : Int) + 1) = ((d + 1 : Nat) : Int) := by rw [wrap_small (by omega) (by omega)]; simp
    have hwm : mx (wrap64 ((d : Int) - 1)) 0 = ((d - 1 : Nat) : Int) := by
      rw [wrap_small (by omega) (by omega)]
      unfold mx
      split <;> omega
    -- whatever s is: the tree goes on with s' = s || !triv
    have hj1 : chunk_end.l0 (k + 5) l (d : Int) (at_ : Int) s = chunk_end.j1 (k + 4) l (d : Int) (at_ : Int) (s || !triv l[at_].f0) := by
      simp only [chunk_end.l0]
      rw [if_pos (by omega)]
      cases s with
      | true => simp
      | false => rw [if_neg (by simp), if_pos (by omega), rd25 hlt, trivia_f]; simp
    rw [hj1, hdrop]
    simp only [regEnd]
    generalize hs' : (s || !triv l[at_].f0) = s'
    have hrd := rd25 hlt
    generalize hf : l[at_].f0 = f
    have hrf : (rd_T25 l (at_ : Int)).f0 = f := by rw [hrd, hf]
    have hj2 : chunk_end.j1 (k + 4) l (d : Int) (at_ : Int) s' = chunk_end.j2 (k + 3) l (d : Int) (at_ : Int) s' f (opens f) := by
      simp only [chunk_end.j1]
      rw [if_pos (by omega), if_pos (by omega), hrf]
      unfold opens
      by_cases h1 : f = 57
      · subst h1; simp
      · by_cases h2 : f = 58
        · subst h2; simp
        · simp [h1, h2, show (f == 57) = false by simpa using h1, show (f == 58) = false by simpa using h2]
    rw [hj2]
    simp only [chunk_end.j2]
    by_cases ho : opens f = true
    · rw [if_pos ho, if_pos ho, hw, hwd, ih (at_ + 1) (d + 1) s' (k + 2) (by omega) (by omega) (by omega) (by omega)]
      simp only [Option.some.injEq, Prod.mk.injEq, and_true]
      omega
    · rw [if_neg ho, if_neg ho]
      have hj3 : (if f = 62 then chunk_end.j3 (k + 2) l (d : Int) (at_ : Int) s' f (f == 62) else if f = 63 then chunk_end.j3 (k + 2) l (d : Int) (at_ : Int) s' f (f == 63) else chunk_end.j3 (k + 2) l (d : Int) (at_ : Int) s' f (f == 64)) = chunk_end.j3 (k + 2) l (d : Int) (at_ : Int) s' f (closes f) := by
        unfold closes
        by_cases h1 : f = 62
        · subst h1; simp
        · by_cases h2 : f = 63
          · subst h2; simp
          · simp [h1, h2, show (f == 62) = false by simpa using h1, show (f == 63) = false by simpa using h2]
      rw [hj3]
      simp only [chunk_end.j3]
      by_cases hc : closes f = true
      · rw [if_pos hc, if_pos hc, hw, hwm, ih (at_ + 1) (d - 1) s' (k + 1) (by omega) (by omega) (by omega) (by omega)]
        simp only [Option.some.injEq, Prod.mk.injEq, and_true]
        omega
      · rw [if_neg hc, if_neg hc]
        have hj4 : (if f = 15 then chunk_end.j4 (k + 1) l (d : Int) (at_ : Int) s' (f == 15) else chunk_end.j4 (k + 1) l (d : Int) (at_ : Int) s' (f == 16)) = chunk_end.j4 (k + 1) l (d : Int) (at_ : Int) s' (semis f) := by
          unfold semis
          by_cases h1 : f = 15
          · subst h1; simp
          · simp [h1, show (f == 15) = false by simpa using h1]
        rw [hj4]
        simp only [chunk_end.j4]
        by_cases hm : semis f = true
        · rw [if_pos hm]
          by_cases hd0 : d = 0
          · subst hd0
            rw [if_pos (by simp), if_pos (by simp [hm]), hw]
          · rw [if_neg (by omega), if_neg (by simp [hm, hd0]), hw, ih (at_ + 1) d s' k (by omega) (by omega) (by omega) (by omega)]
            simp only [Option.some.injEq, Prod.mk.injEq, and_true]
            omega
        · rw [if_neg hm, if_neg (by simp [hm]), hw, ih (at_ + 1) d s' k (by omega) (by omega) (by omega) (by omega)]
          simp only [Option.some.injEq, Prod.mk.injEq, and_true]
          omega

/-- **chunk.end, at every place of a list of tokens.** -/
theorem end_f {l : List S25} (hl : l.length < 5864062014805) {o : Nat} (ho : o ≤ l.length) :
    ∃ k, chunk_end.f k l (o : Int) = some (((o + (regEnd (l.drop o) 0 false).1 : Nat) : Int), (regEnd (l.drop o) 0 false).2) :=
  ⟨_, end_l0 l hl (l.length - o) o 0 false _ rfl ho (Nat.zero_le _) (Nat.le_refl _)⟩

/-- The regions of the tokens ts, which stand behind o others; n: a bound on their number. -/
def cutN : Nat → List S25 → Nat → List S30
  | 0, _, _ => []
  | n + 1, ts, o => if ts = [] then [] else if (regEnd ts 0 false).2 = true then ⟨(o : Int), ((o + (regEnd ts 0 false).1 : Nat) : Int)⟩ :: cutN n (ts.drop (regEnd ts 0 false).1) (o + (regEnd ts 0 false).1) else []
/-- **The regions of a list of tokens.** -/
def cutG (l : List S25) : List S30 := cutN l.length l 0

instance : DecidableEq S25 := fun a b => match a, b with
  | ⟨a0, a1, a2⟩, ⟨b0, b1, b2⟩ => if h : a0 = b0 ∧ a1 = b1 ∧ a2 = b2 then .isTrue (by obtain ⟨rfl, rfl, rfl⟩ := h; rfl) else .isFalse (fun e => h (by cases e; exact ⟨rfl, rfl, rfl⟩))

theorem cutN_length (n : Nat) : ∀ (ts : List S25) (o : Nat), (cutN n ts o).length ≤ ts.length := by
  induction n with
  | zero => intro ts o; simp [cutN]
  | succ n ih =>
    intro ts o
    simp only [cutN]
    split
    · simp
    · rename_i h
      split
      · have h1 := ih (ts.drop (regEnd ts 0 false).1) (o + (regEnd ts 0 false).1)
        have h2 := regEnd_pos h 0 false
        have h3 := regEnd_le ts 0 false
        simp only [List.length_drop] at h1
        simp only [List.length_cons]
        omega
      · simp

theorem cutG_length (l : List S25) : (cutG l).length ≤ l.length := cutN_length _ _ _

/-- More rounds tell the same. -/
theorem cutN_more (n : Nat) : ∀ (m : Nat) (ts : List S25) (o : Nat), ts.length ≤ n → ts.length ≤ m → cutN n ts o = cutN m ts o := by
  induction n with
  | zero =>
    intro m ts o h _
    have : ts = [] := List.length_eq_zero_iff.1 (by omega)
    subst this
    cases m <;> simp [cutN]
  | succ n ih =>
    intro m ts o h h'
    cases m with
    | zero =>
      have : ts = [] := List.length_eq_zero_iff.1 (by omega)
      subst this
      simp [cutN]
    | succ m =>
      simp only [cutN]
      split
      · rfl
      · rename_i hne
        have h2 := regEnd_pos hne 0 false
        rw [ih m _ _ (by simp only [List.length_drop]; omega) (by simp only [List.length_drop]; omega)]

/-- The regions from o on. -/
def cutFrom (l : List S25) (o : Nat) : List S30 := cutN (l.length - o) (l.drop o) o

theorem cutFrom_zero (l : List S25) : cutFrom l 0 = cutG l := by simp [cutFrom, cutG]

theorem cutFrom_end {l : List S25} {o : Nat} (h : l.length ≤ o) : cutFrom l o = [] := by
  unfold cutFrom
  rw [show l.length - o = 0 by omega]
  rfl

theorem cutFrom_step {l : List S25} {o : Nat} (h : o < l.length) (hs : (regEnd (l.drop o) 0 false).2 = true) :
    cutFrom l o = ⟨(o : Int), ((o + (regEnd (l.drop o) 0 false).1 : Nat) : Int)⟩ :: cutFrom l (o + (regEnd (l.drop o) 0 false).1) := by
  have hne : l.drop o ≠ [] := by intro e; have := congrArg List.length e; simp at this; omega
  unfold cutFrom
  obtain ⟨n, hn⟩ : ∃ n, l.length - o = n + 1 := ⟨l.length - o - 1, by omega⟩
  rw [hn]
  simp only [cutN]
  rw [if_neg hne, if_pos hs, List.drop_drop]
  have h2 := regEnd_pos hne 0 false
  congr 1
  apply cutN_more
  · simp only [List.length_drop]; omega
  · simp only [List.length_drop]; omega

theorem cutFrom_stop {l : List S25} {o : Nat} (hs : (regEnd (l.drop o) 0 false).2 = false) : cutFrom l o = [] := by
  unfold cutFrom
  cases h : l.length - o with
  | zero => rfl
  | succ n => simp only [cutN]; split <;> simp [hs]



open Go.Shelf

attribute [local go_sem] Oper.semAt_some

def spanV (x : S30) : Value := .agg #[.int .i64 x.f0, .int .i64 x.f1]
def spanCells (xs : List S30) : List Value := xs.flatMap fun x => [.int .i64 x.f0, .int .i64 x.f1]

theorem grown_of_below {w w' : World} (h : Below w.heap.size w w') : w.grownBy w' none := ⟨h.os, h.tape, h.output, h.size, fun k hk _ => h.block k hk⟩

/-- What a round keeps: all that lay when the call began, and the box of the tokens. -/
def KeepsL (n₀ Bn : Nat) (W W' : World) : Prop := Below n₀ W W' ∧ W'.heap[Bn]? = W.heap[Bn]?

set_option maxRecDepth 100000 in
set_option maxHeartbeats 2000000 in
theorem cut_iter (l Bn : Nat) (w : World) (A0 : Option Addr) (c0 : Nat) (l0 : List S25) (hlen : l0.length < 5864062014805) (hr0 : Kd.C k25 w A0 l0.length l0) (hc0 : l0.length ≤ c0) (J Jx : List S30 → World → Prop) (B : Nat)
    (hJ : ∀ s A B row, J s A → A.grownBy B row → (∀ r, row = some r → False) → J s B)
    (hY : ∀ pre x W, J pre W → pre.length < (cutG l0).length → YieldAt Fence.wide (B - 1) Try.prog l #[spanV x] W fun e W' =>
      (e = .returned (.bool true) ∧ J (pre ++ [x]) W' ∧ KeepsL w.heap.size Bn W W') ∨ (e = .returned (.bool false) ∧ Jx (pre ++ [x]) W'))
    (W : World) (hw : Below w.heap.size w W) (hBn : Boxed W Bn 22 (.slice A0 l0.length c0)) (h0 : J [] W) :
    CallsIn Fence.wide B Try.prog 26 #[.func (.yield l) #[] #[], .pointer (some ⟨Bn, 0, none⟩)] W fun e W' => (∃ v, e = .returned v) ∧
      ((∃ ys, ys = cutG l0 ∧ J ys W') ∨ (∃ pre, True ∧ Jx pre W')) := by
  refine callsIn_of_wp Try.func26 rfl trivial ?_ rfl
  simp only [Try.ntmps26, List.size_toArray, List.length_cons, List.length_nil, Nat.reduceAdd, Nat.reduceSub, Array.replicate_succ, Array.replicate_zero, List.push_toArray, List.append_toArray, List.nil_append, List.cons_append]
  gi_wp2
  gi_loopw [3] (fun v3 wr => ∃ (o : Nat) (pre : List S30), v3 = .int .i64 o ∧ o ≤ l0.length ∧ pre ++ cutFrom l0 o = cutG l0 ∧ J pre wr ∧ Below w.heap.size w wr ∧ Boxed wr Bn 22 (.slice A0 l0.length c0))
    (fun v3 _ => l0.length - (intOf v3).toNat)
  case atStart => exact ⟨0, [], rfl, Nat.zero_le _, by rw [cutFrom_zero]; rfl, h0, hw, hBn⟩
  case round =>
    obtain ⟨o, pre, rfl, ho, hpre, hJs, hbw, hbx⟩ := hrel
    have hcell := hbx.cell
    by_cases hlt : o < l0.length
    · obtain ⟨k, hk⟩ := end_f hlen (Nat.le_of_lt hlt)
      have HE := Aside0.mk hk
      clear hk
      have hr1 := Aside0.mk (Kd.C_below hr0 hbw)
      have HP := Aside0.mk hpre
      clear hpre
      obtain ⟨e_, he_⟩ : ∃ e_, e_ = o + (regEnd (l0.drop o) 0 false).1 := ⟨_, rfl⟩
      have HE2 := Aside0.mk he_
      have hle : e_ ≤ l0.length := by have := regEnd_le (l0.drop o) 0 false; simp only [List.length_drop] at this; omega
      have hne : l0.drop o ≠ [] := by intro e; have := congrArg List.length e; simp at this; omega
      have hgt : o < e_ := by have := regEnd_pos hne 0 false; omega
      cases hs : (regEnd (l0.drop o) 0 false).2 with
      | true =>
        rw [hs, ← he_] at HE
        have HS := Aside0.mk hs
        clear hs he_ hne
        gi_wp2_with (refine ⟨trivial, (fun h => by cases h), ?_⟩; gi_at_call 27; refine (callsIn_wide.2 (chunk_end.calls k A0 c0 l0 o e_ true wr hr1.out hc0 HE.out)).mono ?_; rintro e w1 ⟨rfl, hb1⟩; have hJ1 := hJ _ _ _ _ hJs (grown_of_below hb1) (fun r e => by cases e); have hst := cutFrom_step hlt HS.out; rw [← HE2.out] at hst; obtain ⟨fn, tmps, assign, body, hy, hR⟩ := hY pre ⟨(o : Int), (e_ : Int)⟩ w1 hJ1 (by have := congrArg List.length HP.out; rw [hst] at this; simp at this; omega); have HST := Aside0.mk hst; clear hst; unfold spanV at hy; dsimp only at hy)
        refine ⟨(fun h => by cases h), ?_⟩
        refine hR.mono ?_
        rintro e W3 (⟨rfl, hJ3, hk3, hk4⟩ | ⟨rfl, hJx3⟩)
        · gi_wp2
          go_roundw
          case rel => exact ⟨e_, pre ++ [⟨(o : Int), (e_ : Int)⟩], rfl, hle, by have := HP.out; rw [HST.out] at this; simpa using this, hJ3, (hbw.trans (hb1.mono hbw.size)).trans hk3, hk4.trans ((hb1.block Bn hbx.lt).trans hbx)⟩
          case measure => simp [intOf]; omega
        · gi_wp2
          refine bodyPost_ret (results_none rfl _ _ _) rfl ?_
          exact ⟨⟨_, rfl⟩, .inr ⟨_, trivial, hJx3⟩⟩
      | false =>
        rw [hs, ← he_] at HE
        have hst := cutFrom_stop hs
        rw [hst, List.append_nil] at HP
        clear hs he_ hne hst
        gi_wp2_with (refine ⟨trivial, (fun h => by cases h), ?_⟩; gi_at_call 27; refine (callsIn_wide.2 (chunk_end.calls k A0 c0 l0 o e_ false wr hr1.out hc0 HE.out)).mono ?_; rintro e w1 ⟨rfl, hb1⟩; have hJ1 := hJ _ _ _ _ hJs (grown_of_below hb1) (fun r e => by cases e))
        refine ⟨fun _ h => (by cases h), ?_⟩
        gi_wp2
        refine bodyPost_ret (results_none rfl _ _ _) rfl ?_
        exact ⟨⟨_, rfl⟩, .inl ⟨pre, HP.out, hJ1⟩⟩
    · have hst := cutFrom_end (l := l0) (o := o) (by omega)
      rw [hst, List.append_nil] at hpre
      clear hst
      have HP := Aside0.mk hpre
      clear hpre
      gi_wp2
      go_end0
      exact ⟨⟨_, rfl⟩, .inl ⟨pre, HP.out, hJs⟩⟩


set_option maxHeartbeats 1000000 in
/-- **regions(l)**: the tokens are boxed; the function value captures the box. -/
theorem regions_in (n : Nat) (A0 : Option Addr) (m c0 : Nat) (w : World) :
    CallsIn Fence.wide n Try.prog 20 #[.slice A0 m c0] w fun e w' => e = .returned (.func (.func 26) #[] #[.pointer (some ⟨w.heap.size, 0, none⟩)]) ∧ w' = w.alloc (.cells #[.slice A0 m c0] 22) := by
  refine callsIn_of_wp Try.func20 rfl trivial ?_ rfl
  simp only [Try.ntmps20, List.size_toArray, List.length_cons, List.length_nil, Nat.reduceAdd, Nat.reduceSub, Array.replicate_succ, Array.replicate_zero, List.push_toArray, List.append_toArray, List.nil_append, List.cons_append]
  gi_wp2
  go_ret
  exact ⟨rfl, rfl⟩

/-- **regions(l) HANDS BACK A VALUE THAT 'SeqStopsK'**: the regions of the tokens, in their order. -/
theorem regions_stops (B Bn : Nat) (w w0 : World) (A0 : Option Addr) (c0 : Nat) (l0 : List S25) (hlen : l0.length < 5864062014805) (hr0 : Kd.C k25 w A0 l0.length l0) (hc0 : l0.length ≤ c0)
    (hw0 : Below w.heap.size w w0) (hBn : Boxed w0 Bn 22 (.slice A0 l0.length c0)) :
    SeqStopsK Fence.wide B Try.prog 26 #[.pointer (some ⟨Bn, 0, none⟩)] (fun x : S30 => #[spanV x]) (KeepsL w.heap.size Bn) (fun ys => ys = cutG l0) (fun _ => True) (cutG l0).length w0 := fun l J Jx W hW hJ _ hY h0 =>
  cut_iter l Bn w A0 c0 l0 hlen hr0 hc0 J Jx B (fun s A C row hs hg hr => hJ s A C row hs hg (fun r e => (hr r e).elim)) hY W (hw0.trans (hW.mono hw0.size)) ((hW.block Bn hBn.lt).trans hBn) h0

theorem keepsL_t {n₀ Bn : Nat} {A B C : World} (h : KeepsL n₀ Bn A B) (k : KeepsL n₀ Bn B C) : KeepsL n₀ Bn A C := ⟨h.1.trans k.1, k.2.trans h.2⟩
theorem keepsL_b {n₀ Bn : Nat} {w : World} (h0 : n₀ ≤ w.heap.size) (hB : Bn < w.heap.size) (W : World) (l : Nat) (o o' : Obj) (hl : w.heap.size ≤ l) (h1 : W.heap[l]? = some o) (h2 : o.isCells = false) (h3 : o.isWalk = false) : KeepsL n₀ Bn W (W.putObj l o') :=
  ⟨belowK_b h0 W l o o' hl h1 h2 h3, World.putObj_heap_other (by omega)⟩

/-- A struct variable's box: two cells. -/
def Boxed2 (W : World) (B : Nat) (t : TypeId) (x : S30) : Prop := W.heap[B]? = some (.cells #[.int .i64 x.f0, .int .i64 x.f1] t (0, 0))

set_option maxRecDepth 100000 in
set_option maxHeartbeats 4000000 in
theorem chunk_Cut.walk (A0 : Option Addr) (c0 : Nat) (l0 : List S25) (w : World) (hr0 : Kd.C k25 w A0 l0.length l0) (hc0 : l0.length ≤ c0) (hlen : l0.length < 5864062014805) :
    CallsIn Fence.wide 9 Try.prog 10 #[.slice A0 l0.length c0] w fun e W' => ∃ v, e = .returned v ∧ W'.ownsRow w.heap.size 30 2 v (cutG l0).length (spanCells (cutG l0)) ∧ Below w.heap.size w W' := by
  obtain ⟨i0, hi, hz0, hz1, hz2⟩ := info_parts info30
  have hcl := cutG_length l0
  refine callsIn_of_wp_marks Try.func10 rfl trivial ?_ rfl
  simp only [Try.ntmps10, List.size_toArray, List.length_cons, List.length_nil, Nat.reduceAdd, Nat.reduceSub, Array.replicate_succ, Array.replicate_zero, List.push_toArray, List.append_toArray, List.nil_append, List.cons_append]
  gi_wp2_with (refine ⟨trivial, ?_⟩; gi_at_call 20; refine (regions_in _ _ _ _ _).mono ?_; rintro e w' ⟨rfl, rfl⟩)
  have bO := (Boxed.new w 26 (.slice none 0 0)).alloc (.cells #[.slice A0 l0.length c0] 22)
  have bL := Boxed.new (w.alloc (.cells #[.slice none 0 0] 26)) 22 (.slice A0 l0.length c0)
  rw [World.size_alloc] at bL
  have hB0 : Below w.heap.size w ((w.alloc (.cells #[.slice none 0 0] 26)).alloc (.cells #[.slice A0 l0.length c0] 22)) := ((Below.refl _ w).alloc (Nat.le_refl _) _).alloc (by simp) _
  have hsz : ((w.alloc (.cells #[.slice none 0 0] 26)).alloc (.cells #[.slice A0 l0.length c0] 22)).heap.size = w.heap.size + 2 := by simp
  obtain ⟨W0, hW0⟩ : ∃ W0, (w.alloc (.cells #[.slice none 0 0] 26)).alloc (.cells #[.slice A0 l0.length c0] 22) = W0 := ⟨_, rfl⟩
  rw [hW0] at bO bL hB0 hsz ⊢
  clear hW0
  refine wpIn_rangeFunc_ownH rfl (by decide) (gf := 26) (lb := #[.pointer (some ⟨w.heap.size + 1, 0, none⟩)]) rfl trivial (enters_of Try.func26 (by kernel_rfl) rfl)
    (regions_stops 8 (w.heap.size + 1) w W0 A0 c0 l0 hlen hr0 hc0 hB0 bL) keepsL_t (keepsL_b (by omega) (by omega)) (Below.refl _ _) (fun _ => rfl)
    (fun pre W => ((∃ v, Boxed W w.heap.size 26 v ∧ W.ownsRow w.heap.size 30 2 v pre.length (spanCells pre) ∧ True) ∧ Boxed W (w.heap.size + 1) 22 (.slice A0 l0.length c0)) ∧ Below w.heap.size w W)
    (fun _ _ _ => False)
    (OwnFrom.and (OwnFrom.and (Own.from (holdsRow_own w.heap.size w.heap.size 26 30 2 (fun pre : List S30 => pre.length) (fun pre => spanCells pre) (fun _ _ => True)) _) (Own.from (boxed_own _ _ _) _)) (ownFrom_below (Nat.le_refl _) (by omega)))
    (fun _ _ _ _ _ hs _ _ => hs)
    ⟨⟨⟨_, bO, World.ownsRow_nil _ _ _ _, trivial⟩, bL⟩, hB0⟩
    (fun x a' W => ∃ Bx, w.heap.size + 1 < Bx ∧ Boxed2 W Bx 30 x ∧ a' = { tmps := #[.slice A0 l0.length c0, undef, .slice none 0 0, .pointer (some ⟨w.heap.size, 0, none⟩), .pointer (some ⟨Bx, 0, none⟩), .slice A0 l0.length c0, .func (.func 26) #[] #[.pointer (some ⟨w.heap.size + 1, 0, none⟩)], spanV x, undef, undef, undef, undef, undef], defers := [] })
    (fun x a' _ X Y row hs hg hr => by obtain ⟨Bx, h1, h2, h3⟩ := hs; exact ⟨Bx, h1, (hg.block Bx (Array.getElem?_eq_some_iff.1 h2).1 (fun e' => by obtain ⟨o, ho, hc⟩ := (hr Bx e'.symm).2; rw [show X.heap[Bx]? = _ from h2] at ho; cases ho; cases hc)).trans h2, h3⟩)
    ?assign ?body ?done ?stop
  case assign =>
    rintro l pre x W K ⟨⟨⟨v, hv, hrow, _⟩, bL1⟩, hB1⟩ hK
    simp only [spanV]
    gi_wp2
    exact hK _ _ ((KeepsOthers.alloc _ _).from _) ⟨(Below.refl _ W).alloc hB1.size _, Below.heap_alloc _ _ _ bL1.lt⟩ ⟨⟨⟨v, hv.alloc _, hrow.alloc _, trivial⟩, bL1.alloc _⟩, hB1.alloc hB1.size _⟩ ⟨W.heap.size, bL1.lt, World.alloc_heap_new W _, rfl⟩
  case body =>
    rintro l pre x a' W hl _ ⟨⟨⟨v, hv, hrow, _⟩, bL1⟩, hB1⟩ ⟨Bx, hBx, bX, rfl⟩ hlt
    have cO := hv.cell
    have cX0 : W.cell? ⟨Bx, 0, none⟩ = some (.int .i64 x.f0) := by simp [World.cell?, show W.heap[Bx]? = _ from bX]
    have cX1 : W.cell? ⟨Bx, 1, none⟩ = some (.int .i64 x.f1) := by simp [World.cell?, show W.heap[Bx]? = _ from bX]
    simp only [spanV]
    gi_wp2_with (gi_at_builtin; refine wpListIn_append_own _ rfl _ _ 26 rfl w.heap.size 30 i0 _ 2 16 Try.underlying26 hi hz0 hz1 hz2 rfl (by decide) _ _ _ rfl (hrow.alloc _) ⟨W.heap.size, 0, none⟩ 1 1 [.int .i64 x.f0, .int .i64 x.f1] rfl rfl (cell_two_new _ _ _ _) (by simp [Value.oneCell']) (by unfold maxLen; omega) (by omega) (by have := hB1.size; simp; omega) ?_; intro v' w1 hown' hgrow _; obtain ⟨g', cap', rfl⟩ := ownsRow_succ hown'; obtain ⟨hv1, hv2, hr2, hk2, hb2⟩ := hv.appended (by decide) hrow hB1.size (Nat.le_refl _) hown' hgrow; have hc1 := hv1.cell; have hf1 := hv1.frozen; have hL2 := ((bL1.alloc _).kept hgrow (bL1.not_row (by decide) hrow)).other (B' := w.heap.size) (by omega) (.slice (some ⟨g', 0, none⟩) (pre.length + 1) cap'))
    refine ⟨hk2.from _, ⟨hb2, hL2.trans bL1.symm⟩, ⟨⟨_, hv2, ?_, trivial⟩, hL2⟩, hB1.trans hb2⟩
    simpa [spanCells] using hr2
  case done =>
    rintro D ys W hD rfl ⟨⟨⟨v, hv, hrow, _⟩, bL1⟩, hB1⟩ hK
    have cO := hv.cell
    gi_wp2
    refine ⟨by simp, .inl ⟨_, _, rfl, run_takeDeferred hK, ?_⟩⟩
    exact ⟨_, results_tmp rfl _ _ _, v, rfl, ownsRow_putObj hrow _ hK rfl, hB1.trans (belowK_b (w := w) (Nat.le_refl _) W D _ _ (by omega) hK rfl rfl)⟩
  case stop =>
    rintro D c pre W _ _ h _
    exact h.elim

/-- What the walk's row says in the print's own words. -/
theorem R_of_spans {w : World} {base : Nat} {v : Value} {xs : List S30} (h : w.ownsRow base 30 2 v xs.length (spanCells xs)) : Kd.R k30 30 w base (fun _ => True) v xs := by
  refine ⟨fun _ _ => trivial, spanCells xs, h, ?_, ?_⟩
  · clear h
    induction xs with
    | nil => rfl
    | cons x xs ih =>
      have e : spanCells (x :: xs) = [.int .i64 x.f0, .int .i64 x.f1] ++ spanCells xs := rfl
      rw [e, List.length_append, ih, List.length_cons]
      show 2 + xs.length * 2 = (xs.length + 1) * 2
      omega
  · clear h
    intro j p hp
    have e : ((spanCells xs).drop (j * 2)).take 2 = [.int .i64 p.f0, .int .i64 p.f1] := by
      induction xs generalizing j with
      | nil => simp at hp
      | cons x xs ih =>
        have e : spanCells (x :: xs) = .int .i64 x.f0 :: .int .i64 x.f1 :: spanCells xs := rfl
        rw [e]
        cases j with
        | zero => simp at hp; subst hp; rfl
        | succ j =>
          rw [show (j + 1) * 2 = j * 2 + 1 + 1 by omega, List.drop_succ_cons, List.drop_succ_cons]
          exact ih j (by simpa using hp)
    show k30.M w base _ p (((spanCells xs).drop (j * 2)).take 2)
    rw [e]
    exact k30_mkM _ _ _ p

/-- **chunk.Cut, as the print has its contracts.** -/
def chunk_Cut.f (l0 : List S25) : Option (List S30) := if l0.length < 5864062014805 then some (cutG l0) else none
theorem chunk_Cut.calls (A0 : Option Addr) (c0 : Nat) (l0 : List (S25)) (r : List (S30)) (w : World) (hr0 : Kd.C k25 w A0 l0.length l0) (hc0 : l0.length ≤ c0) (h : chunk_Cut.f l0 = some r) :
    Calls Try.prog 10 #[.slice A0 l0.length c0] w fun e w' => ∃ v0_ : Value, e = .returned (v0_) ∧ Kd.R k30 30 w' w.heap.size (fun _ => True) v0_ r ∧ Below w.heap.size w w' := by
  unfold chunk_Cut.f at h
  split at h
  · rename_i hl
    obtain rfl := Option.some.inj h
    refine (callsIn_wide.1 (chunk_Cut.walk A0 c0 l0 w hr0 hc0 hl)).mono ?_
    rintro e w' ⟨v, rfl, ho, hb⟩
    exact ⟨v, rfl, R_of_spans ho, hb⟩
  · cases h


end Go.Proofs.Ytcejdokeaoklaaa.PChk
