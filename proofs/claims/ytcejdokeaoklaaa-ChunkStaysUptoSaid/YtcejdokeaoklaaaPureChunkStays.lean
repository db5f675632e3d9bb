/-
  ChunkStays, the plain law: what stands within a region hangs on its own tokens alone.
-/
import Derived.Test.YtcejdokeaoklaaaPChkx13
import Derived.Test.YtcejdokeaoklaaaPureChunkCovers
namespace Go.Proofs.Ytcejdokeaoklaaa.PChk
open Go.RowKit Go.Proofs.YtcejdokeaoklaaaW.PrintWords Go.Proofs.YtcejdokeaoklaaaW.PrintLast Go.Proofs.YtcejdokeaoklaaaW.PrintMore

def bearsB (a : Int) : Bool := opens a || closes a || semis a
theorem bears_f (a : Int) : scholiastlaw04_bears.f a = some (bearsB a) := by
  unfold scholiastlaw04_bears.f
  by_cases h1 : a = 57
  · subst h1; rfl
  by_cases h2 : a = 58
  · subst h2; rfl
  by_cases h3 : a = 59
  · subst h3; rfl
  by_cases h4 : a = 62
  · subst h4; rfl
  by_cases h5 : a = 63
  · subst h5; rfl
  by_cases h6 : a = 64
  · subst h6; rfl
  by_cases h7 : a = 15
  · subst h7; rfl
  by_cases h8 : a = 16
  · subst h8; rfl
  rw [if_neg h1, if_neg h2, if_neg h3, if_neg h4, if_neg h5, if_neg h6, if_neg h7, if_neg h8]
  have e : ∀ c : Int, a ≠ c → (a == c) = false := fun c h => by simpa using h
  simp [bearsB, opens, closes, semis, e _ h1, e _ h2, e _ h3, e _ h4, e _ h5, e _ h6, e _ h7, e _ h8]
theorem plain_of {t : S25} (h : bearsB t.f0 = false) : plainT t := by
  unfold bearsB at h
  simp only [Bool.or_eq_false_iff] at h
  exact ⟨h.1.1, h.1.2, h.2⟩

/-- What the tokens put in are. -/
def toksOf (put : List Int) : List S25 := put.map fun a => ⟨a, 0, 0⟩

/-- The regions of tokens with a plain piece m between p and q: those that end in p; the one at hand; those behind it. -/
theorem cutG_piece (p m q : List S25) (hm : ∀ t ∈ m, plainT t) : cutG (p ++ (m ++ q)) = (scan p 0 0 0 false).1 ++
    (if (wts (p.drop (scan p 0 0 0 false).2.1) || wts m || wts (q.take (regEnd q (scan p 0 0 0 false).2.2.1 false).1)) = true
      then ⟨((scan p 0 0 0 false).2.1 : Int), ((p.length + (regEnd q (scan p 0 0 0 false).2.2.1 false).1 : Nat) : Int) + (m.length : Int)⟩ :: (cutN q.length (q.drop (regEnd q (scan p 0 0 0 false).2.2.1 false).1) (p.length + (regEnd q (scan p 0 0 0 false).2.2.1 false).1)).map (moved m.length) else []) := by
  have hs := scan_sig [] p 0 0 false (Nat.zero_le _) rfl
  rw [List.length_nil, List.nil_append] at hs
  rw [cutG_append, refS_append, scan_plain m _ _ _ _ hm, hs]
  simp only [List.nil_append]
  congr 1
  generalize (scan p 0 0 0 false).2.1 = f
  generalize (scan p 0 0 0 false).2.2.1 = d
  rw [refS_eq q q.length _ _ _ _ (Nat.le_refl _)]
  rw [regEnd_snd q d (wts (p.drop f) || wts m), regEnd_fst q d (wts (p.drop f) || wts m) false]
  split
  · congr 1
    · simp only [S30.mk.injEq, true_and]; omega
    · rw [show p.length + m.length + (regEnd q d false).1 = p.length + (regEnd q d false).1 + m.length by omega, cutN_moved]
  · rfl

theorem stays_l2 (r s : List S30) (k c : Nat) (m : List S25) (hm : m.length ≤ 1048576) (hr : r.length ≤ 1048577) (hb : ∀ x ∈ r, 0 ≤ x.f0 ∧ x.f0 < x.f1 ∧ x.f1 ≤ 1048577)
    (hlen : s.length = r.length) (h1 : ∀ i (h : i < r.length), i < k → s[i]? = some r[i]) (h2 : ∀ (h : k < r.length), s[k]? = some ⟨r[k].f0, r[k].f1 + ((m.length : Int) - 1)⟩)
    (h3 : ∀ i (h : i < r.length), k < i → s[i]? = some (moved ((m.length : Int) - 1) r[i])) (hc : c = r.length) :
    ∀ n i, r.length - i = n → i ≤ r.length → Ev (fun n_ => scholiastlaw04_ChunkStays.l2 n_ m r (k : Int) s (c : Int) (i : Int)) true := by
  subst hc
  have hw : wrap64 ((m.length : Int) - 1) = (m.length : Int) - 1 := wrap_small (by omega) (by omega)
  intro n
  induction n with
  | zero =>
    intro i hn hi
    exact Ev.step (fun k_ => scholiastlaw04_ChunkStays.l2.eq_2 _ _ _ _ _ _ k_) (ev_neg (by omega) (Ev.now _))
  | succ n ih =>
    intro i hn hi
    have hlt : i < r.length := by omega
    have hls : i < s.length := by omega
    obtain ⟨hb0, hb1, hb2⟩ := hb r[i] (List.getElem_mem hlt)
    have hnext := ih (i + 1) (by omega) (by omega)
    refine Ev.step (fun k_ => scholiastlaw04_ChunkStays.l2.eq_2 _ _ _ _ _ _ k_) (ev_pos (by omega) (ev_pos (by omega) (ev_pos (by omega) ?_)))
    rw [rd30 hlt, hw]
    by_cases hik : i < k
    · have e := h1 i hlt hik
      rw [List.getElem?_eq_getElem hls] at e
      have e := Option.some.inj e
      refine ev_neg (by omega) (Ev.step (fun k_ => scholiastlaw04_ChunkStays.j5.eq_2 _ _ _ _ _ _ _ _ _ k_) (ev_neg (by omega) (ev_pos (by omega) (ev_pos (by omega) ?_))))
      rw [rd30 hls, e, wrap_next hlt (by omega)]
      exact ev_neg (by simp) hnext
    · by_cases hk : i = k
      · subst hk
        have e := h2 hlt
        rw [List.getElem?_eq_getElem hls] at e
        have e := Option.some.inj e
        refine ev_neg (by omega) (Ev.step (fun k_ => scholiastlaw04_ChunkStays.j5.eq_2 _ _ _ _ _ _ _ _ _ k_) (ev_pos (by omega) (ev_pos (by omega) (ev_pos (by omega) ?_))))
        rw [rd30 hls, e, hw, wrap_small (x := r[i].f1 + ((m.length : Int) - 1)) (by omega) (by omega), wrap_next hlt (by omega)]
        exact ev_neg (by simp) hnext
      · have e := h3 i hlt (by omega)
        rw [List.getElem?_eq_getElem hls] at e
        have e := Option.some.inj e
        refine ev_pos (by omega) (Ev.step (fun k_ => scholiastlaw04_ChunkStays.j5.eq_2 _ _ _ _ _ _ _ _ _ k_) (ev_pos (by omega) (ev_pos (by omega) (ev_pos (by omega) ?_))))
        rw [rd30 hls, e, hw, wrap_small (x := r[i].f1 + ((m.length : Int) - 1)) (by omega) (by omega), wrap_small (x := r[i].f0 + ((m.length : Int) - 1)) (by omega) (by omega), wrap_next hlt (by omega)]
        exact ev_neg (by simp [moved]) hnext

/-- Where regions lie: within their tokens. -/
theorem cutFrom_within (l : List S25) : ∀ n o, l.length - o = n → o ≤ l.length → ∀ x ∈ cutFrom l o, 0 ≤ x.f0 ∧ x.f0 < x.f1 ∧ x.f1 ≤ (l.length : Int) := by
  intro n
  induction n using Nat.strongRecOn with
  | _ n ih =>
    intro o hn ho x hx
    rcases cutFrom_cases ho with ⟨h, _⟩ | ⟨e, h1, h2, h3, _⟩
    · rw [h] at hx; cases hx
    · rw [h3, List.mem_cons] at hx
      rcases hx with rfl | hx
      · simp only; omega
      · exact ih (l.length - e) (by omega) e rfl h2 x hx
theorem cutG_within (l : List S25) : ∀ x ∈ cutG l, 0 ≤ x.f0 ∧ x.f0 < x.f1 ∧ x.f1 ≤ (l.length : Int) := by
  rw [← cutFrom_zero]
  exact cutFrom_within l _ 0 rfl (Nat.zero_le _)

theorem drop_take_mid (p m q : List S25) {f e : Nat} (hf : f ≤ p.length) : ((p ++ (m ++ q)).take (p.length + m.length + e)).drop f = p.drop f ++ (m ++ q.take e) := by
  have h1 : (p ++ (m ++ q)).take (p.length + m.length + e) = p ++ (m ++ q.take e) := by
    rw [Nat.add_assoc, List.take_length_add_append, List.take_length_add_append]
  rw [h1, List.drop_append_of_le_length hf]

theorem stays_l1 (l : List S25) (m : List S25) (r : List S30) (hr : r.length ≤ 1048577) (a : Int) (K : Nat) (hK : K ≤ r.length) (h1 : ∀ i (h : i < r.length), i < K → r[i].f1 ≤ a) (h2 : ∀ (h : K < r.length), ¬ r[K].f1 ≤ a)
    (hj : Ev (fun k => scholiastlaw04_ChunkStays.j3 k l a m r (K : Int)) true) : ∀ n i, K - i = n → i ≤ K → Ev (fun k => scholiastlaw04_ChunkStays.l1 k l a m r (i : Int)) true := by
  intro n
  induction n with
  | zero =>
    intro i hn hi
    have e : i = K := by omega
    subst e
    refine Ev.step (fun k => scholiastlaw04_ChunkStays.l1.eq_2 _ _ _ _ _ k) ?_
    by_cases hlt : i < r.length
    · refine ev_pos (by omega) (ev_pos (by omega) ?_)
      rw [rd30 hlt]
      exact ev_neg (h2 hlt) hj
    · exact ev_neg (by omega) hj
  | succ n ih =>
    intro i hn hi
    have hlt : i < r.length := by omega
    refine Ev.step (fun k => scholiastlaw04_ChunkStays.l1.eq_2 _ _ _ _ _ k) (ev_pos (by omega) (ev_pos (by omega) ?_))
    rw [rd30 hlt, wrap_next hlt (by omega)]
    exact ev_pos (h1 i hlt (by omega)) (ih (i + 1) (by omega) (by omega))

/-- Behind the search for the region: what the program asks of it. -/
theorem stays_j3 (l m Y : List S25) (r s : List S30) (K a f e : Nat) (g : Int) (hl : l.length ≤ 1048576) (hm : m.length ≤ 1048576) (ha : a < l.length) (hY : (l.take a ++ m) ++ l.drop (a + 1) = Y) (hs : cutG Y = s)
    (_hr : r.length ≤ 1048577) (hK : K < r.length) (hrK : r[K] = ⟨(f : Int), g⟩) (hg : Aside0 (wrap64 (wrap64 (g + (m.length : Int)) - 1) = (e : Int))) (hfe : f ≤ e) (heY : e ≤ Y.length)
    (h1 : wts ((Y.take e).drop f) = true → s.length = r.length ∧ Ev (fun k => scholiastlaw04_ChunkStays.l2 k m r (K : Int) s (r.length : Int) 0) true)
    (h2 : wts ((Y.take e).drop f) = false → ((s.length : Int) == wrap64 ((r.length : Int) - 1)) = true) :
    Ev (fun k => scholiastlaw04_ChunkStays.j3 k l (a : Int) m r (K : Int)) true := by
  have hYl : Y.length ≤ 3000000 := by rw [← hY]; simp only [List.length_append, List.length_take, List.length_drop]; omega
  have ht : (l.take a).length ≤ 1048576 := by rw [List.length_take]; omega
  have hd : (l.drop (a + 1)).length ≤ 1048576 := by rw [List.length_drop]; omega
  have hwn : wrap64 ((a : Int) + 1) = ((a + 1 : Nat) : Int) := by rw [wrap_small (by omega) (by omega)]; omega
  have HWN := Aside0.mk hwn
  clear hwn
  refine Ev.step (fun k => scholiastlaw04_ChunkStays.j3.eq_2 _ _ _ _ _ k) ?_
  refine ev_neg (by omega) ?_
  refine ev_pos (by omega) ?_
  refine ev_pos (by omega) ?_
  rw [Int.toNat_natCast, HWN.out, Int.toNat_natCast]
  generalize hP : l.take a = P at ht hY
  generalize hQ : l.drop (a + 1) = Q at hd hY
  refine ev_let (b := P) rfl ?_
  refine ev_pos (by rw [List.length_nil]; omega) ?_
  refine ev_let (b := P) (by rw [List.nil_append]) ?_
  refine ev_pos (by omega) ?_
  refine ev_let (b := P ++ m) rfl ?_
  refine ev_pos (by omega) ?_
  refine ev_pos (by omega) ?_
  refine ev_let (b := Q) rfl ?_
  refine ev_pos (by rw [List.length_append]; omega) ?_
  refine ev_let (b := Y) (by rw [hY]) ?_
  refine ev_let (cut_f (by omega)) ?_
  rw [hs]
  refine ev_pos (by omega) ?_
  refine ev_pos (by omega) ?_
  rw [rd30 hK, hrK]
  simp only
  rw [hg.out, Int.toNat_natCast, Int.toNat_natCast]
  refine ev_pos (by omega) ?_
  refine ev_pos (by omega) ?_
  refine ev_pos (by omega) ?_
  refine Ev.bind (weighs_ev _ (by rw [List.length_drop, List.length_take]; omega)) ?_
  by_cases hw : wts ((Y.take e).drop f) = true
  · obtain ⟨h3, h4⟩ := h1 hw
    exact ev_pos hw (ev_pos (by omega) h4)
  · refine ev_neg hw ?_
    rw [h2 (by simpa using hw)]
    exact Ev.now _

/-- Tokens p, then x, then q; m in x's place: behind the search for x's region. -/
theorem stays_main (p q m : List S25) (x : S25) (hx : plainT x) (hm : ∀ t ∈ m, plainT t) (hl : p.length + 1 + q.length ≤ 1048576) (hml : m.length ≤ 1048576) :
    Ev (fun k => scholiastlaw04_ChunkStays.l1 k (p ++ ([x] ++ q)) (p.length : Int) m (cutG (p ++ ([x] ++ q))) ((0 : Nat) : Int)) true := by
  have hc1 := cutG_piece p [x] q (fun t ht => by rw [List.mem_singleton.1 ht]; exact hx)
  have hc2 := cutG_piece p m q hm
  have hends := scan_ends p 0 0 0 false (Nat.le_refl _)
  have hfp := scan_le p 0 0 0 false (Nat.le_refl _)
  have hrng := cutG_within (p ++ ([x] ++ q))
  have hcl := cutG_length (p ++ ([x] ++ q))
  have hcm := cutG_length (p ++ (m ++ q))
  have hlen : (p ++ ([x] ++ q)).length = p.length + 1 + q.length := by simp; omega
  have hlem : (p ++ (m ++ q)).length = p.length + m.length + q.length := by simp; omega
  have he1 := regEnd_le q (scan p 0 0 0 false).2.2.1 false
  have hearly := regEnd_early_sig (ts := q) (d := (scan p 0 0 0 false).2.2.1) (s := false)
  rw [hlen] at hrng hcl
  rw [hlem] at hcm
  rw [Nat.zero_add] at hfp
  generalize (scan p 0 0 0 false).1 = out at hc1 hc2 hends
  generalize (scan p 0 0 0 false).2.1 = f at hc1 hc2 hends hfp
  generalize (scan p 0 0 0 false).2.2.1 = d at hc1 hc2 he1 hearly
  obtain ⟨e, he⟩ : ∃ e, e = (regEnd q d false).1 := ⟨_, rfl⟩
  rw [← he] at hc1 hc2 he1 hearly
  obtain ⟨C, hC⟩ : ∃ C, C = cutN q.length (q.drop e) (p.length + e) := ⟨_, rfl⟩
  rw [← hC] at hc1 hc2
  obtain ⟨r, hr⟩ : ∃ r, r = cutG (p ++ ([x] ++ q)) := ⟨_, rfl⟩
  rw [← hr] at hc1 hrng hcl ⊢
  obtain ⟨s, hs⟩ : ∃ s, s = cutG (p ++ (m ++ q)) := ⟨_, rfl⟩
  rw [← hs] at hc2 hcm
  have hwx : wts [x] = !triv x.f0 := by simp [wts]
  by_cases hsig : (wts (p.drop f) || wts [x] || wts (q.take e)) = true
  · -- x stands in a region
    rw [if_pos hsig] at hc1
    have hrl : r.length = out.length + 1 + C.length := by rw [hc1]; simp; omega
    have hrK : r[out.length]? = some ⟨(f : Int), ((p.length + e : Nat) : Int) + 1⟩ := by rw [hc1]; simp
    have hri : ∀ i, i < out.length → r[i]? = out[i]? := fun i hi => by rw [hc1, List.getElem?_append_left hi]
    have hrC : ∀ j, r[out.length + 1 + j]? = (C[j]?).map (moved 1) := fun j => by
      rw [hc1, List.getElem?_append_right (by omega), show out.length + 1 + j - out.length = j + 1 by omega, List.getElem?_cons_succ, List.getElem?_map]
      rfl
    have hKlt : out.length < r.length := by omega
    have hrK' : r[out.length] = ⟨(f : Int), ((p.length + e : Nat) : Int) + 1⟩ := by rw [List.getElem?_eq_getElem hKlt] at hrK; exact Option.some.inj hrK
    refine stays_l1 _ m r (by omega) (p.length : Int) out.length (by omega) ?_ ?_ ?_ _ 0 rfl (Nat.zero_le _)
    · intro i h hi
      have h1 := hri i hi
      rw [List.getElem?_eq_getElem h, List.getElem?_eq_getElem hi] at h1
      rw [Option.some.inj h1]
      have := hends _ (List.getElem_mem hi)
      omega
    · intro h
      rw [hrK']
      simp only
      omega
    · -- the piece put in
      have hmore : (((p ++ ([x] ++ q)).take p.length) ++ m) ++ (p ++ ([x] ++ q)).drop (p.length + 1) = p ++ (m ++ q) := by
        rw [List.take_left, List.drop_length_add_append, List.append_assoc]
        rfl
      have hw1 : wrap64 (wrap64 (((p.length + e : Nat) : Int) + 1 + (m.length : Int)) - 1) = ((p.length + m.length + e : Nat) : Int) := by
        rw [wrap_small (x := ((p.length + e : Nat) : Int) + 1 + (m.length : Int)) (by omega) (by omega), wrap_small (by omega) (by omega)]
        omega
      have HW1 := Aside0.mk hw1
      clear hw1
      have hwe : wts (((p ++ (m ++ q)).take (p.length + m.length + e)).drop f) = (wts (p.drop f) || wts m || wts (q.take e)) := by
        rw [drop_take_mid p m q hfp, wts_append, wts_append, ← Bool.or_assoc]
      refine stays_j3 (p ++ ([x] ++ q)) m (p ++ (m ++ q)) r s out.length p.length f (p.length + m.length + e) _ (by omega) hml (by omega) hmore hs.symm (by omega) hKlt hrK' HW1 (by omega) (by omega) ?_ ?_
      · intro hw
        rw [hwe] at hw
        rw [if_pos hw] at hc2
        have hsl : s.length = r.length := by rw [hrl, hc2]; simp; omega
        refine ⟨hsl, ?_⟩
        refine stays_l2 r s out.length _ m hml (by omega) ?_ hsl ?_ ?_ ?_ rfl _ 0 rfl (Nat.zero_le _)
        · intro y hy
          have := hrng y hy
          omega
        · intro i h hi
          rw [hc2, List.getElem?_append_left hi, ← hri i hi, List.getElem?_eq_getElem h]
        · intro h
          rw [hrK', hc2]
          simp only [List.getElem?_append_right (Nat.le_refl _), Nat.sub_self, List.getElem?_cons_zero, Option.some.injEq, S30.mk.injEq, true_and]
          omega
        · intro i h hi
          obtain ⟨j, rfl⟩ : ∃ j, i = out.length + 1 + j := ⟨i - out.length - 1, by omega⟩
          have h1 := hrC j
          rw [List.getElem?_eq_getElem h] at h1
          rw [hc2, List.getElem?_append_right (by omega), show out.length + 1 + j - out.length = j + 1 by omega, List.getElem?_cons_succ, List.getElem?_map]
          cases hj : C[j]? with
          | none => rw [hj] at h1; cases h1
          | some y =>
            rw [hj] at h1
            simp only [Option.map_some, Option.some.injEq] at h1 ⊢
            rw [h1]
            simp only [moved, S30.mk.injEq]
            constructor <;> omega
      · intro hw
        rw [hwe] at hw
        rw [if_neg (by rw [hw]; simp)] at hc2
        have hqe : wts (q.take e) = false := by simp only [Bool.or_eq_false_iff] at hw; exact hw.2
        have heq : e = q.length := by
          refine Nat.le_antisymm he1 (Nat.le_of_not_lt fun hlt => ?_)
          have := hearly hlt
          rw [hqe] at this
          cases this
        have hCn : C = [] := by
          rw [hC, heq, List.drop_length]
          cases q.length <;> simp [cutN]
        rw [hCn] at hrl
        rw [wrap_small (by omega) (by omega), hc2, hrl]
        simp
  · -- x stands in none
    rw [if_neg hsig, List.append_nil] at hc1
    refine stays_l1 _ m r (by omega) (p.length : Int) r.length (Nat.le_refl _) ?_ (fun h => by omega) ?_ _ 0 rfl (Nat.zero_le _)
    · intro i h _
      have := hends r[i] (by rw [← hc1]; exact List.getElem_mem h)
      omega
    · exact Ev.step (fun k => scholiastlaw04_ChunkStays.j3.eq_2 _ _ _ _ _ k) (ev_pos rfl (Ev.now _))

theorem stays_l0 (l : List S25) (hl : l.length ≤ 1048576) (a : Nat) (ha : a < l.length) (hx : plainT l[a]) (put : List Int) (hp : put.length ≤ 1048576) : ∀ n j, put.length - j = n → j ≤ put.length → (∀ t ∈ toksOf (put.take j), plainT t) →
    Ev (fun k => scholiastlaw04_ChunkStays.l0 k l (a : Int) (toksOf (put.take j)) put (put.length : Int) (j : Int)) true := by
  intro n
  induction n with
  | zero =>
    intro j hn hj hm
    have e : j = put.length := by omega
    subst e
    rw [List.take_length] at hm ⊢
    refine Ev.step (fun k => scholiastlaw04_ChunkStays.l0.eq_2 _ _ _ _ _ _ k) (ev_neg (by omega) (ev_let (cut_f (by omega)) ?_))
    have hsplit : l = l.take a ++ ([l[a]] ++ l.drop (a + 1)) := by
      rw [List.singleton_append, ← List.drop_eq_getElem_cons ha, List.take_append_drop]
    have hpl : (l.take a).length = a := by rw [List.length_take]; omega
    have := stays_main (l.take a) (l.drop (a + 1)) (toksOf put) l[a] hx hm (by rw [hpl, List.length_drop]; omega) (by simp [toksOf]; omega)
    rw [← hsplit, hpl] at this
    exact this
  | succ n ih =>
    intro j hn hj hm
    have hlt : j < put.length := by omega
    have hrd : rd put (j : Int) = put[j] := by simp [rd, List.getD, hlt]
    refine Ev.step (fun k => scholiastlaw04_ChunkStays.l0.eq_2 _ _ _ _ _ _ k) (ev_pos (by omega) (ev_pos (by omega) (ev_pos (by omega) ?_)))
    rw [hrd, wrap_next hlt (by omega)]
    refine ev_let (bears_f put[j]) ?_
    by_cases hb : bearsB put[j] = true
    · exact ev_pos hb (Ev.now _)
    · refine ev_neg hb (ev_pos (by simp [toksOf]; omega) ?_)
      have e1 : toksOf (put.take j) ++ [(⟨put[j], 0, 0⟩ : S25)] = toksOf (put.take (j + 1)) := by
        rw [List.take_succ_eq_append_getElem hlt]
        unfold toksOf
        rw [List.map_append]
        rfl
      rw [e1]
      refine ih (j + 1) (by omega) (by omega) ?_
      rw [← e1]
      intro t ht
      rw [List.mem_append, List.mem_singleton] at ht
      rcases ht with ht | rfl
      · exact hm t ht
      · exact plain_of (by simpa using hb)

theorem stays_pure (l : List S25) (a : Int) (put : List Int) (hl : l.length ≤ 1048576) (hp : put.length ≤ 1048576) : ∃ k, scholiastlaw04_ChunkStays.f k l a put = some true := by
  have htrue : Ev (fun k => scholiastlaw04_ChunkStays.j0 k l a put true) true := Ev.step (fun k => scholiastlaw04_ChunkStays.j0.eq_2 _ _ _ _ k) (ev_pos rfl (Ev.now _))
  refine Ev.rounds (g := fun k => scholiastlaw04_ChunkStays.f k l a put) ?_
  unfold scholiastlaw04_ChunkStays.f
  refine Ev.bind shown_ev (ev_pos rfl ?_)
  by_cases h1 : a < 0
  · exact ev_pos h1 htrue
  · refine ev_neg h1 ?_
    by_cases h2 : a ≥ (l.length : Int)
    · exact ev_pos h2 htrue
    · obtain ⟨n, rfl⟩ : ∃ n : Nat, a = n := ⟨a.toNat, by omega⟩
      have hn : n < l.length := by omega
      refine ev_neg h2 (ev_pos (by omega) (ev_pos (by omega) ?_))
      rw [rd25 hn]
      refine ev_let (bears_f l[n].f0) ?_
      cases hb : bearsB l[n].f0 with
      | true => exact htrue
      | false =>
        refine Ev.step (fun k => scholiastlaw04_ChunkStays.j0.eq_2 _ _ _ _ k) (ev_neg (by simp) ?_)
        have := stays_l0 l hl n hn (plain_of hb) put hp _ 0 rfl (Nat.zero_le _) (by intro t ht; simp [toksOf] at ht)
        exact this

end Go.Proofs.Ytcejdokeaoklaaa.PChk
