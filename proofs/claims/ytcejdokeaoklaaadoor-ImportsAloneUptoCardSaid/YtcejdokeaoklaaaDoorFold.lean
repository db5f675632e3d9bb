import Derived.Test.YtcejdokeaoklaaaDoorOrd
import Derived.Test.YtcejdokeaoklaaaDoorSplitEv
import Derived.Test.YtcejdokeaoklaaaDoorShelf
import Derived.Sort.OwnSorted
/-! imports.Folders: the walk. -/
namespace Go.Proofs.YtcejdokeaoklaaaDoor.PImp
open Go.RowKit Go.Sort Go.Proofs.YtcejdokeaoklaaaDoorW.PrintWords Go.Proofs.YtcejdokeaoklaaaDoorW.PrintLast Go.Proofs.YtcejdokeaoklaaaDoorW.PrintMore
open Go.Proofs.YtcejdokeaoklaaaDoor.Imp
theorem split_calls (s : ByteArray) (w : World) (hs : s.size < 1048577) :
    Calls Tryd.prog 8 #[.string s] w fun e w' => e = .returned (.tuple #[.string (splitF s).1, .string (splitF s).2.1, .int .i64 (splitF s).2.2]) ∧ Below w.heap.size w w' := by
  obtain ⟨k, hk⟩ := (prog_Split_ev s hs).rounds
  exact imports_Split.calls k s _ _ _ w hk
theorem split_yes (s : ByteArray) (w : World) (hs : s.size < 1048577) (h : okN s = true) :
    Calls Tryd.prog 8 #[.string s] w fun e w' => e = .returned (.tuple #[.string (folderF s), .string (splitF s).2.1, .int .i64 0]) ∧ Below w.heap.size w w' := by
  have := split_calls s w hs
  rw [(splitF_err s).2 h] at this
  exact this
theorem split_no (s : ByteArray) (w : World) (hs : s.size < 1048577) (h : okN s = false) :
    Calls Tryd.prog 8 #[.string s] w fun e w' => e = .returned (.tuple #[.string ⟨#[]⟩, .string ⟨#[]⟩, .int .i64 130]) ∧ Below w.heap.size w w' := by
  have := split_calls s w hs
  rw [splitF_no h] at this
  exact this
theorem rawF_next {l : List ByteArray} {i : Nat} (h : i < l.length) : rawF (l.take (i + 1)) = rawF (l.take i) ++ (if okN l[i] = true then [folderF l[i]] else []) := by
  rw [List.take_succ_eq_append_getElem h, rawF_snoc]
theorem encs_map (l : List ByteArray) : encs Value.string l = (l.map (·.data.toList)).map encStr := by
  unfold encs
  rw [List.map_map]
  exact List.map_congr_left (fun x _ => congrArg Value.string (list_strOf x).symm)
theorem encs_strOf (l : List (List UInt8)) : encs Value.string (l.map strOf) = l.map encStr := by
  unfold encs
  rw [List.map_map]
  rfl
/-- A row, shortened. -/
theorem own_short {w : World} {base g n m cap : Nat} {e : TypeId} {xs : List Value} (h : w.ownsRow base e 1 (.slice (some ⟨g, 0, none⟩) n cap) n xs) (hm : m ≤ n) : w.ownsRow base e 1 (.slice (some ⟨g, 0, none⟩) m cap) m (xs.take m) := by
  obtain ⟨h0, h⟩ := h
  rcases h with ⟨h, _⟩ | ⟨g', cap', cur, h, h1, h2, h3, h4, h5, h6⟩
  · simp at h
  · simp only [Value.slice.injEq, Option.some.injEq, Addr.mk.injEq, and_true, true_and] at h
    obtain ⟨rfl, rfl⟩ := h
    refine ⟨by rw [List.length_take, h0]; omega, .inr ⟨g, cap, cur, rfl, h1, h2, by omega, h4, h5, ?_⟩⟩
    rw [← h6, List.take_take]
    congr 1
    omega
theorem grow_none (w : World) : grow w #[] = w := by
  unfold grow
  rw [Array.append_empty]
/-- slices.Sort at a row of the call's own. -/
theorem sort_own {w : World} {base : Nat} {v : Value} {zs : List (List UInt8)} (h : w.ownsRow base 9 1 v zs.length (zs.map encStr)) (hl : zs.length < 4611686018427387904) :
    Calls Tryd.prog 27 #[v] w fun e w' => e = .returned (.tuple #[]) ∧ w'.ownsRow base 9 1 v zs.length ((zs.mergeSort fun x y => decide (x ≤ y)).map encStr) ∧ w.grownBy w' v.ownBlock := by
  rcases h.2 with ⟨rfl, hz⟩ | ⟨g, cap, cur, rfl, hbase, hgb, r1, r2, r3, r4⟩
  · have e : zs = [] := List.eq_nil_of_length_eq_zero hz
    subst e
    exact (Tryd.slices_Sort_string_none none 0 w).mono fun e w' ⟨he, hw⟩ => by
      subst hw
      exact ⟨he, by simpa using h, ⟨rfl, rfl, rfl, Nat.le_refl _, fun _ _ _ => rfl⟩⟩
  · have hH : Holds encStr w g 0 zs.toArray := holds_of_block hgb (by simpa using r4)
    have hgl : g < w.heap.size := (Array.getElem?_eq_some_iff.1 hgb).1
    exact (Tryd.slices_Sort_string g 0 cap zs w hH hgl hl).mono fun e w' ⟨he, n, os, hw⟩ => by
      subst hw
      exact ⟨he, ownsRow_sorted (by simp) hbase hgb r1 r2 r3, grownBy_sorted _⟩
theorem compact_le (zs : List (List UInt8)) : (Lib.compact zs).length ≤ zs.length := by
  unfold Lib.compact Lib.compactUpTo
  rw [List.length_map]
  refine Nat.le_trans (List.length_filter_le _ _) ?_
  rw [List.length_range]
  exact Nat.le_refl _
/-- slices.Compact at a row of the call's own. -/
theorem compact_own {w : World} {base : Nat} {v : Value} {zs : List (List UInt8)} (h : w.ownsRow base 9 1 v zs.length (zs.map encStr)) (hl : zs.length < 4611686018427387904) :
    Calls Tryd.prog 28 #[v] w fun e w' => ∃ v', e = .returned v' ∧ v'.ownBlock = v.ownBlock ∧ w'.ownsRow base 9 1 v' (Lib.compact zs).length ((Lib.compact zs).map encStr) ∧ w.grownBy w' v.ownBlock := by
  rcases h.2 with ⟨rfl, hz⟩ | ⟨g, cap, cur, rfl, hbase, hgb, r1, r2, r3, r4⟩
  · have e : zs = [] := List.eq_nil_of_length_eq_zero hz
    subst e
    exact (Tryd.slices_Compact_string_empty none 0 w).mono fun e w' ⟨he, hw⟩ => by
      subst hw
      exact ⟨_, he, rfl, h, ⟨rfl, rfl, rfl, Nat.le_refl _, fun _ _ _ => rfl⟩⟩
  · have hH : Holds encStr w g 0 zs.toArray := holds_of_block hgb (by simpa using r4)
    have hle := compact_le zs
    exact (Tryd.slices_Compact_string g 0 cap zs w hH (by omega) r1).mono fun e w' ⟨he, q, hw⟩ => by
      rw [← grow_none (putRow _ _ _ _ _)] at hw
      subst hw
      refine ⟨_, he, rfl, ?_, grownBy_sorted _⟩
      have ho := ownsRow_sorted (n := q) (os := #[]) (ts := Lib.compact zs ++ List.replicate (zs.length - (Lib.compact zs).length) []) (ss := zs) (by simp; omega) hbase hgb r1 r2 r3
      have hs := own_short ho hle
      rw [List.map_append, List.take_append_of_le_length (by simp), List.take_of_length_le (by simp)] at hs
      exact hs
set_option maxHeartbeats 8000000 in
set_option maxRecDepth 100000 in
theorem imports_Folders.walk (A0 : Option Addr) (c0 : Nat) (l0 : List ByteArray) (w : World) (hr0 : Kd.C Kd.string w A0 l0.length l0) (hl : l0.length < 1048577) (hs : ∀ s ∈ l0, s.size < 1048577) :
    Calls Tryd.prog 10 #[.slice A0 l0.length c0] w fun e w' => ∃ v0_ : Value, e = .returned (v0_) ∧ Kd.R Kd.string 9 w' w.heap.size (fun _ => True) v0_ (foldersF l0) ∧ Below w.heap.size w w' := by
  have HR := Aside0.mk hr0
  clear hr0
  go_enter Tryd.func10, Tryd.ntmps10
  go_wp2
  go_loopg [3, 11] l0.length (fun kq v3 v11 w' => ∃ (i : Nat), v11 = .int .i64 (i : Int) ∧ i + kq = l0.length ∧ Aside0 (Kd.R Kd.string 9 w' w.heap.size (fun _ => True) v3 (rawF (l0.take i))) ∧ Aside0 (Below w.heap.size w w'))
  case atStart => exact ⟨0, rfl, by omega, ⟨Kd.R_nil _ _ _ _ _⟩, ⟨Below.refl _ _⟩⟩
  case round =>
    rename_i wq
    obtain ⟨i, rfl, hk, HO, HB⟩ := hrel
    by_cases hi : i < l0.length
    · have hb0 : decide ((i : Int) < (l0.length : Int)) = true := decide_eq_true (by omega)
      have HN := Aside0.mk (rawF_next hi)
      have hsz := hs l0[i] (List.getElem_mem hi)
      have p1 : 0 ≤ (i : Int) := by omega
      have q1 : (i : Int) < (l0.length : Int) := by omega
      obtain ⟨ad, e1, hx⟩ := Kd.at_string (Kd.C_below HR.out HB.out) (i : Int) p1 q1
      cases e1
      rw [rdOf_get hi] at hx
      simp only [Int.toNat_natCast] at hx
      have hsn := Aside0.mk hsz
      clear hsz
      have hln := rawF_length (l0.take i)
      rw [List.length_take] at hln
      have hln' := Aside0.mk (show (rawF (l0.take i)).length < 1048577 by omega)
      clear hln
      generalize l0[i] = s at hx HN hsn
      replace p1 := eq_true p1
      replace q1 := eq_true q1
      cases ho : okN s
      · go_wp2_with (first | (go_at_call 8; refine (split_no s _ hsn.out ho).mono ?_; rintro e w1 ⟨rfl, hb1⟩; have HB1 := Aside0.mk hb1; clear hb1))
        go_roundg (gk - 1)
        case measure => omega
        case rel =>
          have e1 := HN.out
          rw [ho, if_neg (by decide), List.append_nil] at e1
          exact ⟨i + 1, by go_num, by omega, ⟨by rw [e1]; exact Kd.R_below HO.out HB1.out⟩, ⟨HB.out.trans (HB1.out.mono HB.out.size)⟩⟩
      · go_wp2_with (first | (go_at_call 8; refine (split_yes s _ hsn.out ho).mono ?_; rintro e w1 ⟨rfl, hb1⟩; have HB1 := Aside0.mk hb1; clear hb1) | (at_builtin; refine Kd.R_append Kd.string (w0 := w) w.heap.size rfl _ _ 26 9 (.string ⟨#[]⟩) 16 rfl Tryd.underlying26 info9 rfl (by decide) (by omega) _ (rawF (l0.take i)) (folderF s) [.string (folderF s)] (fun _ => True) (fun _ => False) rfl rfl rfl (fun _ hk => hk.elim) (fun _ _ => trivial) (Kd.R_below HO.out HB1.out) (HB.out.trans (HB1.out.mono HB.out.size)) (Nat.le_trans HB.out.size HB1.out.size) (by have := hln'.out; omega) ?_; intro v2 w2 ho2 hb2 hg2 hat2; have HO2 := Aside0.mk ho2; have HB2 := Aside0.mk hb2; clear ho2 hb2 hg2 hat2))
        go_roundg (gk - 1)
        case measure => omega
        case rel =>
          have e1 := HN.out
          rw [ho, if_pos rfl] at e1
          exact ⟨i + 1, by go_num, by omega, ⟨by rw [e1]; exact HO2.out⟩, ⟨HB2.out⟩⟩
    · have hb0 : decide ((i : Int) < (l0.length : Int)) = false := decide_eq_false (by omega)
      have ei : l0.take i = l0 := List.take_of_length_le (by omega)
      have hown := Kd.own_of_R HO.out
      rw [ei, encs_map] at hown
      have hlen := rawF_length l0
      have hcf := Aside0.mk (compact_folders l0)
      obtain ⟨zs, hzs⟩ : ∃ zs, zs = (rawF l0).map (·.data.toList) := ⟨_, rfl⟩
      have hzl : zs.length = (rawF l0).length := by rw [hzs, List.length_map]
      rw [← hzs, ← hzl] at hown
      rw [← hzs] at hcf
      have HW := Aside0.mk hown
      have hz := Aside0.mk (show zs.length < 1048577 by omega)
      clear hown hlen hzl hzs ei
      go_wp2_with (first | (go_at_call 27; refine (sort_own HW.out (by have := hz.out; omega)).mono ?_; rintro e w1 ⟨rfl, ho1, hg1⟩; have HW1 := Aside0.mk ho1; have HB1 := Aside0.mk (HB.out.grown hg1 HB.out.size (own_base HW.out)); clear ho1 hg1) | (go_at_call 28; refine (compact_own (zs := zs.mergeSort fun x y => decide (x ≤ y)) (by rw [List.length_mergeSort]; exact HW1.out) (by rw [List.length_mergeSort]; have := hz.out; omega)).mono ?_; rintro e w2 ⟨v2, rfl, hv2, ho2, hg2⟩; have HW2 := Aside0.mk ho2; have HB2 := Aside0.mk (HB1.out.grown hg2 HB1.out.size (own_base HW1.out)); clear ho2 hg2 hv2))
      go_ret
      refine ⟨_, rfl, ?_, HB2.out⟩
      rw [← hcf.out]
      exact Kd.R_of_own (by rw [List.length_map, encs_strOf]; exact HW2.out) (fun _ _ => trivial)
end Go.Proofs.YtcejdokeaoklaaaDoor.PImp
