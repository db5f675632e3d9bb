-- Written by a program of this session (wip/tools/printseat.sh).
import Derived.Test.YtcejdokeaoklaaaDoorProg
import Derived.Below
import Derived.Deep.Draws
import Derived.Deep.AppendLies
import Derived.Maps.AppendAt
import Derived.OwnWalk
import Derived.Laws.BytesArg
import Derived.Laws.MakeOwn
import Derived.Laws.OwnMore
import Derived.Deep.OwnRows
import Derived.Tactics
import Derived.Lib.ConvBytes
import Derived.Laws.Slices
import Derived.WalkKit
import Derived.KernelRfl
import Derived.RowKit3
import Derived.Deep.LoopGhost
import Derived.Deep.QuietTactic
import Derived.BigQuiet
import Derived.WideLaws
import Derived.Deep.DeepCutAuto
import Derived.Deep.CutBlock
import Derived.Deep.RegionHeld3
import Derived.Laws.Rows
import Derived.Lib.AppendStr
import Derived.ArgAppend
import Derived.Laws.IdiomCopy
import Derived.OrdersHeld
import Derived.Laws.BitsLemmas
import Derived.RowKit
import Derived.Test.YtcejdokeaoklaaaDoorWWords
import Derived.Test.YtcejdokeaoklaaaDoorWLast
import Derived.Test.YtcejdokeaoklaaaDoorWTab
import Derived.Test.YtcejdokeaoklaaaDoorWFour
import Derived.Test.YtcejdokeaoklaaaDoorWQPut
import Derived.Test.YtcejdokeaoklaaaDoorWApart
import Derived.Test.YtcejdokeaoklaaaDoorWArr
import Derived.Test.YtcejdokeaoklaaaDoorWZeros
import Derived.Test.YtcejdokeaoklaaaDoorWFoot
import Derived.Test.YtcejdokeaoklaaaDoorWKept
import Derived.Test.YtcejdokeaoklaaaDoorWShare
import Derived.Test.YtcejdokeaoklaaaDoorWN
import Derived.Test.YtcejdokeaoklaaaDoorWFootNe
import Derived.Test.YtcejdokeaoklaaaDoorWAt
import Derived.Test.YtcejdokeaoklaaaDoorWEqStruct
import Derived.Test.YtcejdokeaoklaaaDoorWRepsOne
import Derived.Test.YtcejdokeaoklaaaDoorWInv
import Derived.Test.YtcejdokeaoklaaaDoorWInvWords
import Derived.Test.YtcejdokeaoklaaaDoorWGuard
import Derived.Test.YtcejdokeaoklaaaDoorWNEv
import Derived.Test.YtcejdokeaoklaaaDoorWMore
namespace Go.Proofs.YtcejdokeaoklaaaDoor.PImp
open Go.RowKit Go.Proofs.YtcejdokeaoklaaaDoorW.PrintWords Go.Proofs.YtcejdokeaoklaaaDoorW.PrintLast Go.Proofs.YtcejdokeaoklaaaDoorW.PrintMore
attribute [local go_sem] max2_int min2_int max_two min_two max_three min_three max_four min_four   -- for this text's walks alone
set_option linter.unusedVariables false
set_option linter.unusedSimpArgs false



def errW : Option Int → Value
  | none => .nilIface
  | some c => .iface 0 (.int .i64 c)
theorem errW_none : errW none = .nilIface := rfl
theorem errW_some (c : Int) : errW (some c) = .iface 0 (.int .i64 c) := rfl

theorem info9 : (Tryd.prog.info? 9).map (fun i => (i.zero, i.size, i.bytes)) = some (some (.string ⟨#[]⟩), 1, 16) := by kernel_rfl
theorem info49 : (Tryd.prog.info? 49).map (fun i => (i.zero, i.size, i.bytes)) = some (some (.slice none 0 0), 1, 24) := by kernel_rfl
theorem info52 : (Tryd.prog.info? 52).map (fun i => (i.zero, i.size, i.bytes)) = some (some (.agg #[(.int .i64 0), (.int .i64 0), (.int .i64 0)]), 3, 24) := by kernel_rfl
-- the values' own types
def rd_L1 (xs : List (List ByteArray)) (i : Int) : (List ByteArray) := xs.getD i.toNat ([] : List ByteArray)
theorem at_L1 {w : World} {A : Option Addr} {n : Nat} {xs : List (List ByteArray)} (h : Kd.C (Kd.slice 9 Kd.string) w A n xs) (i : Int) (h0 : 0 ≤ i) (h1 : i < n) : ∃ ad A0 c0, A = some ad ∧ w.cell? (ad.add i.toNat) = some (.slice A0 (rd_L1 xs i).length c0) ∧ (rd_L1 xs i).length ≤ c0 ∧ Kd.string.C w A0 (rd_L1 xs i).length (rd_L1 xs i) := by
  obtain ⟨ad, c, e, _, hK, hc0⟩ := Kd.C_get h ([] : List ByteArray) i h0 h1
  have hc : ∀ j u, c[j]? = some u → w.cell? (ad.add (i.toNat * 1 + j)) = some u := hc0
  obtain ⟨A0, c0, rfl, l0, g0⟩ := hK
  exact ⟨ad, A0, c0, e, by have hq := hc 0 _ rfl; rwa [Nat.mul_one, Nat.add_zero] at hq, l0, g0⟩

/-! #### struct type 42 -/
structure S42 where
  f0 : ByteArray
  f1 : Int
  f2 : Int
def z42 : S42 := ⟨(⟨#[]⟩ : ByteArray), (0 : Int), (0 : Int)⟩
def k42 : Kd S42 := Kd.iso (Kd.pair Kd.string (Kd.pair (Kd.int .i64) (Kd.int .i64))) (fun x : S42 => (x.f0, x.f1, x.f2))
theorem k42_open {w : World} {x : S42} {cs : List Value} (h : k42.K w x cs) : cs = [.string x.f0, .int .i64 x.f1, .int .i64 x.f2] := by
  obtain ⟨_, _, rfl, rfl, ⟨_, _, rfl, rfl, rfl⟩⟩ := h
  exact rfl
theorem k42_openM {w : World} {base : Nat} {ok : Nat → Prop} {x : S42} {cs : List Value} (h : k42.M w base ok x cs) : cs = [.string x.f0, .int .i64 x.f1, .int .i64 x.f2] := by
  obtain ⟨_, _, rfl, rfl, ⟨_, _, rfl, rfl, rfl⟩⟩ := h
  exact rfl
theorem k42_mk (w : World) (x : S42)  : k42.K w x [.string x.f0, .int .i64 x.f1, .int .i64 x.f2] := ⟨[.string x.f0], [.int .i64 x.f1, .int .i64 x.f2], rfl, rfl, ⟨[.int .i64 x.f1], [.int .i64 x.f2], rfl, rfl, rfl⟩⟩
theorem k42_mkM (w : World) (base : Nat) (ok : Nat → Prop) (x : S42)  : k42.M w base ok x [.string x.f0, .int .i64 x.f1, .int .i64 x.f2] := ⟨[.string x.f0], [.int .i64 x.f1, .int .i64 x.f2], rfl, rfl, ⟨[.int .i64 x.f1], [.int .i64 x.f2], rfl, rfl, rfl⟩⟩
theorem k42_mkF (W : World) (ok : Nat → Prop) (x : S42) : Kd.FK k42 W ok x [.string x.f0, .int .i64 x.f1, .int .i64 x.f2] := fun W2 _ => k42_mk W2 x
def rd_T42 (xs : List S42) (i : Int) : S42 := xs.getD i.toNat z42
theorem at_T42 {w : World} {A : Option Addr} {n : Nat} {xs : List S42} (h : Kd.C k42 w A n xs) (i : Int) (h0 : 0 ≤ i) (h1 : i < n) : ∃ ad , A = some ad ∧ w.cell? (ad.add (i.toNat * 3)) = some (.string (rd_T42 xs i).f0) ∧ w.cell? ⟨(ad.add (i.toNat * 3)).block, (ad.add (i.toNat * 3)).off + 1, none⟩ = some (.int .i64 (rd_T42 xs i).f1) ∧ w.cell? ⟨(ad.add (i.toNat * 3)).block, (ad.add (i.toNat * 3)).off + 2, none⟩ = some (.int .i64 (rd_T42 xs i).f2) := by
  obtain ⟨ad, c, e, _, hK, hc0⟩ := Kd.C_get h z42 i h0 h1
  have hc : ∀ j u, c[j]? = some u → w.cell? (ad.add (i.toNat * 3 + j)) = some u := hc0
  obtain rfl := k42_open hK
  exact ⟨ad, e, hc 0 _ rfl, by rw [← add_field _ _ 1 (by omega)]; exact hc 1 _ rfl, by rw [← add_field _ _ 2 (by omega)]; exact hc 2 _ rfl⟩

/-! #### struct type 48 -/
structure S48 where
  f0 : ByteArray
  f1 : ByteArray
  f2 : Int
  f3 : Int
def z48 : S48 := ⟨(⟨#[]⟩ : ByteArray), (⟨#[]⟩ : ByteArray), (0 : Int), (0 : Int)⟩
def k48 : Kd S48 := Kd.iso (Kd.pair Kd.string (Kd.pair Kd.string (Kd.pair (Kd.int .i64) (Kd.int .i64)))) (fun x : S48 => (x.f0, x.f1, x.f2, x.f3))
theorem k48_open {w : World} {x : S48} {cs : List Value} (h : k48.K w x cs) : cs = [.string x.f0, .string x.f1, .int .i64 x.f2, .int .i64 x.f3] := by
  obtain ⟨_, _, rfl, rfl, ⟨_, _, rfl, rfl, ⟨_, _, rfl, rfl, rfl⟩⟩⟩ := h
  exact rfl
theorem k48_openM {w : World} {base : Nat} {ok : Nat → Prop} {x : S48} {cs : List Value} (h : k48.M w base ok x cs) : cs = [.string x.f0, .string x.f1, .int .i64 x.f2, .int .i64 x.f3] := by
  obtain ⟨_, _, rfl, rfl, ⟨_, _, rfl, rfl, ⟨_, _, rfl, rfl, rfl⟩⟩⟩ := h
  exact rfl
theorem k48_mk (w : World) (x : S48)  : k48.K w x [.string x.f0, .string x.f1, .int .i64 x.f2, .int .i64 x.f3] := ⟨[.string x.f0], [.string x.f1, .int .i64 x.f2, .int .i64 x.f3], rfl, rfl, ⟨[.string x.f1], [.int .i64 x.f2, .int .i64 x.f3], rfl, rfl, ⟨[.int .i64 x.f2], [.int .i64 x.f3], rfl, rfl, rfl⟩⟩⟩
theorem k48_mkM (w : World) (base : Nat) (ok : Nat → Prop) (x : S48)  : k48.M w base ok x [.string x.f0, .string x.f1, .int .i64 x.f2, .int .i64 x.f3] := ⟨[.string x.f0], [.string x.f1, .int .i64 x.f2, .int .i64 x.f3], rfl, rfl, ⟨[.string x.f1], [.int .i64 x.f2, .int .i64 x.f3], rfl, rfl, ⟨[.int .i64 x.f2], [.int .i64 x.f3], rfl, rfl, rfl⟩⟩⟩
theorem k48_mkF (W : World) (ok : Nat → Prop) (x : S48) : Kd.FK k48 W ok x [.string x.f0, .string x.f1, .int .i64 x.f2, .int .i64 x.f3] := fun W2 _ => k48_mk W2 x
def rd_T48 (xs : List S48) (i : Int) : S48 := xs.getD i.toNat z48
theorem at_T48 {w : World} {A : Option Addr} {n : Nat} {xs : List S48} (h : Kd.C k48 w A n xs) (i : Int) (h0 : 0 ≤ i) (h1 : i < n) : ∃ ad , A = some ad ∧ w.cell? (ad.add (i.toNat * 4)) = some (.string (rd_T48 xs i).f0) ∧ w.cell? ⟨(ad.add (i.toNat * 4)).block, (ad.add (i.toNat * 4)).off + 1, none⟩ = some (.string (rd_T48 xs i).f1) ∧ w.cell? ⟨(ad.add (i.toNat * 4)).block, (ad.add (i.toNat * 4)).off + 2, none⟩ = some (.int .i64 (rd_T48 xs i).f2) ∧ w.cell? ⟨(ad.add (i.toNat * 4)).block, (ad.add (i.toNat * 4)).off + 3, none⟩ = some (.int .i64 (rd_T48 xs i).f3) := by
  obtain ⟨ad, c, e, _, hK, hc0⟩ := Kd.C_get h z48 i h0 h1
  have hc : ∀ j u, c[j]? = some u → w.cell? (ad.add (i.toNat * 4 + j)) = some u := hc0
  obtain rfl := k48_open hK
  exact ⟨ad, e, hc 0 _ rfl, by rw [← add_field _ _ 1 (by omega)]; exact hc 1 _ rfl, by rw [← add_field _ _ 2 (by omega)]; exact hc 2 _ rfl, by rw [← add_field _ _ 3 (by omega)]; exact hc 3 _ rfl⟩

def rd_L5 (xs : List (List S48)) (i : Int) : (List S48) := xs.getD i.toNat ([] : List S48)
theorem at_L5 {w : World} {A : Option Addr} {n : Nat} {xs : List (List S48)} (h : Kd.C (Kd.slice 48 k48) w A n xs) (i : Int) (h0 : 0 ≤ i) (h1 : i < n) : ∃ ad A0 c0, A = some ad ∧ w.cell? (ad.add i.toNat) = some (.slice A0 (rd_L5 xs i).length c0) ∧ (rd_L5 xs i).length ≤ c0 ∧ k48.C w A0 (rd_L5 xs i).length (rd_L5 xs i) := by
  obtain ⟨ad, c, e, _, hK, hc0⟩ := Kd.C_get h ([] : List S48) i h0 h1
  have hc : ∀ j u, c[j]? = some u → w.cell? (ad.add (i.toNat * 1 + j)) = some u := hc0
  obtain ⟨A0, c0, rfl, l0, g0⟩ := hK
  exact ⟨ad, A0, c0, e, by have hq := hc 0 _ rfl; rwa [Nat.mul_one, Nat.add_zero] at hq, l0, g0⟩

def rd_L6 (xs : List (List S42)) (i : Int) : (List S42) := xs.getD i.toNat ([] : List S42)
theorem at_L6 {w : World} {A : Option Addr} {n : Nat} {xs : List (List S42)} (h : Kd.C (Kd.slice 42 k42) w A n xs) (i : Int) (h0 : 0 ≤ i) (h1 : i < n) : ∃ ad A0 c0, A = some ad ∧ w.cell? (ad.add i.toNat) = some (.slice A0 (rd_L6 xs i).length c0) ∧ (rd_L6 xs i).length ≤ c0 ∧ k42.C w A0 (rd_L6 xs i).length (rd_L6 xs i) := by
  obtain ⟨ad, c, e, _, hK, hc0⟩ := Kd.C_get h ([] : List S42) i h0 h1
  have hc : ∀ j u, c[j]? = some u → w.cell? (ad.add (i.toNat * 1 + j)) = some u := hc0
  obtain ⟨A0, c0, rfl, l0, g0⟩ := hK
  exact ⟨ad, A0, c0, e, by have hq := hc 0 _ rfl; rwa [Nat.mul_one, Nat.add_zero] at hq, l0, g0⟩

/-! #### struct type 134, nested in itself -/
structure S134 where
  f0 : Int
  f1 : Int
  f2 : Int
  f3 : (List S134)
def z134 : S134 := ⟨(0 : Int), (0 : Int), (0 : Int), ([] : List S134)⟩
def F134 (d : Kd S134) : Kd S134 := Kd.iso (Kd.pair (Kd.int .i64) (Kd.pair (Kd.int .i64) (Kd.pair (Kd.int .i64) (Kd.slice 134 d)))) (fun x : S134 => (x.f0, x.f1, x.f2, x.f3))
theorem mono134 : Kd.Mono F134 := Kd.mono_iso _ (Kd.mono_pair (Kd.mono_const _) (Kd.mono_pair (Kd.mono_const _) (Kd.mono_pair (Kd.mono_const _) (Kd.mono_slice 134 Kd.mono_id))))
theorem sub134 : Kd.Sub F134 [134] := Kd.sub_iso _ (Kd.sub_pair (Kd.sub_const _ (by decide)) (Kd.sub_pair (Kd.sub_const _ (by decide)) (Kd.sub_pair (Kd.sub_const _ (by decide)) (Kd.sub_slice 134 (by decide) Kd.sub_id))))
theorem sz134 : ∀ n, (Kd.upto F134 4 [134] n).sz = 4 := Kd.upto_sz (fun _ => rfl)
def k134 : Kd S134 := Kd.fix F134 4 [134] sz134 (Kd.upto_E sub134)
theorem k134_open {w : World} {x : S134} {cs : List Value} (h : k134.K w x cs) : ∃ A3 c3, cs = [.int .i64 x.f0, .int .i64 x.f1, .int .i64 x.f2, .slice A3 x.f3.length c3] ∧ x.f3.length ≤ c3 ∧ k134.C w A3 x.f3.length x.f3 := by
  obtain ⟨n, h⟩ := h
  cases n with
  | zero => exact h.elim
  | succ n =>
    obtain ⟨_, _, rfl, rfl, ⟨_, _, rfl, rfl, ⟨_, _, rfl, rfl, ⟨A3, c3, rfl, l3, g3⟩⟩⟩⟩ := h
    exact ⟨A3, c3, rfl, l3, Kd.fix_C g3⟩
theorem k134_openM {w : World} {base : Nat} {ok : Nat → Prop} {x : S134} {cs : List Value} (h : k134.M w base ok x cs) : ∃ v3, cs = [.int .i64 x.f0, .int .i64 x.f1, .int .i64 x.f2, v3] ∧ k134.R 134 w base ok v3 x.f3 := by
  obtain ⟨n, h⟩ := h
  cases n with
  | zero => exact h.elim
  | succ n =>
    obtain ⟨_, _, rfl, rfl, ⟨_, _, rfl, rfl, ⟨_, _, rfl, rfl, ⟨v3, rfl, g3⟩⟩⟩⟩ := h
    exact ⟨v3, rfl, Kd.fix_R g3⟩
theorem k134_mk (w : World) (x : S134) {A3 : Option Addr} {c3 : Nat} (l3 : x.f3.length ≤ c3) (g3 : k134.C w A3 x.f3.length x.f3) : k134.K w x [.int .i64 x.f0, .int .i64 x.f1, .int .i64 x.f2, .slice A3 x.f3.length c3] := by
  obtain ⟨n3, q3⟩ := Kd.fix_C_back mono134 g3
  have r3 := Kd.upto_C_le mono134 sz134 (show n3 ≤ n3 by omega) q3
  exact ⟨n3 + 1, ⟨[.int .i64 x.f0], [.int .i64 x.f1, .int .i64 x.f2, .slice A3 x.f3.length c3], rfl, rfl, ⟨[.int .i64 x.f1], [.int .i64 x.f2, .slice A3 x.f3.length c3], rfl, rfl, ⟨[.int .i64 x.f2], [.slice A3 x.f3.length c3], rfl, rfl, ⟨A3, c3, rfl, l3, r3⟩⟩⟩⟩⟩
theorem k134_mkM (w : World) (base : Nat) (ok : Nat → Prop) (x : S134) {v3 : Value} (g3 : k134.R 134 w base ok v3 x.f3) : k134.M w base ok x [.int .i64 x.f0, .int .i64 x.f1, .int .i64 x.f2, v3] := by
  obtain ⟨n3, q3⟩ := Kd.fix_R_back mono134 g3
  have r3 := Kd.upto_R_le mono134 sz134 (show n3 ≤ n3 by omega) q3
  exact ⟨n3 + 1, ⟨[.int .i64 x.f0], [.int .i64 x.f1, .int .i64 x.f2, v3], rfl, rfl, ⟨[.int .i64 x.f1], [.int .i64 x.f2, v3], rfl, rfl, ⟨[.int .i64 x.f2], [v3], rfl, rfl, ⟨v3, rfl, r3⟩⟩⟩⟩⟩
theorem k134_openF {W : World} {ok : Nat → Prop} {x : S134} {cs : List Value} (h : Kd.FK k134 W ok x cs) : ∃ A3 c3, cs = [.int .i64 x.f0, .int .i64 x.f1, .int .i64 x.f2, .slice A3 x.f3.length c3] ∧ x.f3.length ≤ c3 ∧ Kd.F k134 W ok A3 x.f3.length x.f3 := by
  obtain ⟨A3, c3, rfl, l3, _⟩ := k134_open (Kd.FK_now h)
  exact ⟨A3, c3, rfl, l3, (fun W' hW => by obtain ⟨A3_, c3_, he, l3_, g3_⟩ := k134_open (h W' hW); injection (Option.some.inj (show some (Value.slice A3 x.f3.length c3) = some (Value.slice A3_ x.f3.length c3_) from congrArg (fun l => l[3]?) he)) with ha_ _ _; rw [ha_]; exact g3_)⟩
theorem k134_mkF (W : World) (ok : Nat → Prop) (x : S134) {A3 : Option Addr} {c3 : Nat} (l3 : x.f3.length ≤ c3) (g3 : Kd.F k134 W ok A3 x.f3.length x.f3) : Kd.FK k134 W ok x [.int .i64 x.f0, .int .i64 x.f1, .int .i64 x.f2, .slice A3 x.f3.length c3] := fun W2 hW => k134_mk W2 x l3 (g3 W2 hW)
def rd_T134 (xs : List S134) (i : Int) : S134 := xs.getD i.toNat z134
theorem at_T134 {w : World} {A : Option Addr} {n : Nat} {xs : List S134} (h : Kd.C k134 w A n xs) (i : Int) (h0 : 0 ≤ i) (h1 : i < n) : ∃ ad A3 c3, A = some ad ∧ w.cell? (ad.add (i.toNat * 4)) = some (.int .i64 (rd_T134 xs i).f0) ∧ w.cell? ⟨(ad.add (i.toNat * 4)).block, (ad.add (i.toNat * 4)).off + 1, none⟩ = some (.int .i64 (rd_T134 xs i).f1) ∧ w.cell? ⟨(ad.add (i.toNat * 4)).block, (ad.add (i.toNat * 4)).off + 2, none⟩ = some (.int .i64 (rd_T134 xs i).f2) ∧ w.cell? ⟨(ad.add (i.toNat * 4)).block, (ad.add (i.toNat * 4)).off + 3, none⟩ = some (.slice A3 (rd_T134 xs i).f3.length c3) ∧ (rd_T134 xs i).f3.length ≤ c3 ∧ k134.C w A3 (rd_T134 xs i).f3.length (rd_T134 xs i).f3 := by
  obtain ⟨ad, c, e, _, hK, hc0⟩ := Kd.C_get h z134 i h0 h1
  have hc : ∀ j u, c[j]? = some u → w.cell? (ad.add (i.toNat * 4 + j)) = some u := hc0
  obtain ⟨A3, c3, rfl, l3, g3⟩ := k134_open hK
  exact ⟨ad, A3, c3, e, hc 0 _ rfl, by rw [← add_field _ _ 1 (by omega)]; exact hc 1 _ rfl, by rw [← add_field _ _ 2 (by omega)]; exact hc 2 _ rfl, by rw [← add_field _ _ 3 (by omega)]; exact hc 3 _ rfl, l3, g3⟩

/-! #### struct type 136 -/
structure S136 where
  f0 : Int
  f1 : (List S42)
  f2 : ByteArray
  f3 : Bool
  f4 : S134
  f5 : S134
  f6 : Int
def z136 : S136 := ⟨(0 : Int), ([] : List S42), (⟨#[]⟩ : ByteArray), false, z134, z134, (0 : Int)⟩
def k136 : Kd S136 := Kd.iso (Kd.pair (Kd.int .i64) (Kd.pair (Kd.slice 42 k42) (Kd.pair Kd.string (Kd.pair Kd.bool (Kd.pair k134 (Kd.pair k134 (Kd.int .i64))))))) (fun x : S136 => (x.f0, x.f1, x.f2, x.f3, x.f4, x.f5, x.f6))
theorem k136_open {w : World} {x : S136} {cs : List Value} (h : k136.K w x cs) : ∃ A1 c1 A7 c7 A11 c11, cs = [.int .i64 x.f0, .slice A1 x.f1.length c1, .string x.f2, .bool x.f3, .int .i64 x.f4.f0, .int .i64 x.f4.f1, .int .i64 x.f4.f2, .slice A7 x.f4.f3.length c7, .int .i64 x.f5.f0, .int .i64 x.f5.f1, .int .i64 x.f5.f2, .slice A11 x.f5.f3.length c11, .int .i64 x.f6] ∧ x.f1.length ≤ c1 ∧ k42.C w A1 x.f1.length x.f1 ∧ x.f4.f3.length ≤ c7 ∧ k134.C w A7 x.f4.f3.length x.f4.f3 ∧ x.f5.f3.length ≤ c11 ∧ k134.C w A11 x.f5.f3.length x.f5.f3 := by
  obtain ⟨_, _, rfl, rfl, ⟨_, _, rfl, ⟨A1, c1, rfl, l1, g1⟩, ⟨_, _, rfl, rfl, ⟨_, _, rfl, rfl, ⟨_, _, rfl, s4, ⟨_, _, rfl, s8, rfl⟩⟩⟩⟩⟩⟩ := h
  obtain ⟨A7, c7, rfl, l7, g7⟩ := k134_open s4
  obtain ⟨A11, c11, rfl, l11, g11⟩ := k134_open s8
  exact ⟨A1, c1, A7, c7, A11, c11, rfl, l1, g1, l7, g7, l11, g11⟩
theorem k136_openM {w : World} {base : Nat} {ok : Nat → Prop} {x : S136} {cs : List Value} (h : k136.M w base ok x cs) : ∃ v1 v7 v11, cs = [.int .i64 x.f0, v1, .string x.f2, .bool x.f3, .int .i64 x.f4.f0, .int .i64 x.f4.f1, .int .i64 x.f4.f2, v7, .int .i64 x.f5.f0, .int .i64 x.f5.f1, .int .i64 x.f5.f2, v11, .int .i64 x.f6] ∧ k42.R 42 w base ok v1 x.f1 ∧ k134.R 134 w base ok v7 x.f4.f3 ∧ k134.R 134 w base ok v11 x.f5.f3 := by
  obtain ⟨_, _, rfl, rfl, ⟨_, _, rfl, ⟨v1, rfl, g1⟩, ⟨_, _, rfl, rfl, ⟨_, _, rfl, rfl, ⟨_, _, rfl, s4, ⟨_, _, rfl, s8, rfl⟩⟩⟩⟩⟩⟩ := h
  obtain ⟨v7, rfl, g7⟩ := k134_openM s4
  obtain ⟨v11, rfl, g11⟩ := k134_openM s8
  exact ⟨v1, v7, v11, rfl, g1, g7, g11⟩
theorem k136_mk (w : World) (x : S136) {A1 : Option Addr} {c1 : Nat} (l1 : x.f1.length ≤ c1) (g1 : k42.C w A1 x.f1.length x.f1) {A7 : Option Addr} {c7 : Nat} (l7 : x.f4.f3.length ≤ c7) (g7 : k134.C w A7 x.f4.f3.length x.f4.f3) {A11 : Option Addr} {c11 : Nat} (l11 : x.f5.f3.length ≤ c11) (g11 : k134.C w A11 x.f5.f3.length x.f5.f3) : k136.K w x [.int .i64 x.f0, .slice A1 x.f1.length c1, .string x.f2, .bool x.f3, .int .i64 x.f4.f0, .int .i64 x.f4.f1, .int .i64 x.f4.f2, .slice A7 x.f4.f3.length c7, .int .i64 x.f5.f0, .int .i64 x.f5.f1, .int .i64 x.f5.f2, .slice A11 x.f5.f3.length c11, .int .i64 x.f6] := ⟨[.int .i64 x.f0], [.slice A1 x.f1.length c1, .string x.f2, .bool x.f3, .int .i64 x.f4.f0, .int .i64 x.f4.f1, .int .i64 x.f4.f2, .slice A7 x.f4.f3.length c7, .int .i64 x.f5.f0, .int .i64 x.f5.f1, .int .i64 x.f5.f2, .slice A11 x.f5.f3.length c11, .int .i64 x.f6], rfl, rfl, ⟨[.slice A1 x.f1.length c1], [.string x.f2, .bool x.f3, .int .i64 x.f4.f0, .int .i64 x.f4.f1, .int .i64 x.f4.f2, .slice A7 x.f4.f3.length c7, .int .i64 x.f5.f0, .int .i64 x.f5.f1, .int .i64 x.f5.f2, .slice A11 x.f5.f3.length c11, .int .i64 x.f6], rfl, ⟨A1, c1, rfl, l1, g1⟩, ⟨[.string x.f2], [.bool x.f3, .int .i64 x.f4.f0, .int .i64 x.f4.f1, .int .i64 x.f4.f2, .slice A7 x.f4.f3.length c7, .int .i64 x.f5.f0, .int .i64 x.f5.f1, .int .i64 x.f5.f2, .slice A11 x.f5.f3.length c11, .int .i64 x.f6], rfl, rfl, ⟨[.bool x.f3], [.int .i64 x.f4.f0, .int .i64 x.f4.f1, .int .i64 x.f4.f2, .slice A7 x.f4.f3.length c7, .int .i64 x.f5.f0, .int .i64 x.f5.f1, .int .i64 x.f5.f2, .slice A11 x.f5.f3.length c11, .int .i64 x.f6], rfl, rfl, ⟨[.int .i64 x.f4.f0, .int .i64 x.f4.f1, .int .i64 x.f4.f2, .slice A7 x.f4.f3.length c7], [.int .i64 x.f5.f0, .int .i64 x.f5.f1, .int .i64 x.f5.f2, .slice A11 x.f5.f3.length c11, .int .i64 x.f6], rfl, (k134_mk w x.f4 l7 g7), ⟨[.int .i64 x.f5.f0, .int .i64 x.f5.f1, .int .i64 x.f5.f2, .slice A11 x.f5.f3.length c11], [.int .i64 x.f6], rfl, (k134_mk w x.f5 l11 g11), rfl⟩⟩⟩⟩⟩⟩
theorem k136_mkM (w : World) (base : Nat) (ok : Nat → Prop) (x : S136) {v1 : Value} (g1 : k42.R 42 w base ok v1 x.f1) {v7 : Value} (g7 : k134.R 134 w base ok v7 x.f4.f3) {v11 : Value} (g11 : k134.R 134 w base ok v11 x.f5.f3) : k136.M w base ok x [.int .i64 x.f0, v1, .string x.f2, .bool x.f3, .int .i64 x.f4.f0, .int .i64 x.f4.f1, .int .i64 x.f4.f2, v7, .int .i64 x.f5.f0, .int .i64 x.f5.f1, .int .i64 x.f5.f2, v11, .int .i64 x.f6] := ⟨[.int .i64 x.f0], [v1, .string x.f2, .bool x.f3, .int .i64 x.f4.f0, .int .i64 x.f4.f1, .int .i64 x.f4.f2, v7, .int .i64 x.f5.f0, .int .i64 x.f5.f1, .int .i64 x.f5.f2, v11, .int .i64 x.f6], rfl, rfl, ⟨[v1], [.string x.f2, .bool x.f3, .int .i64 x.f4.f0, .int .i64 x.f4.f1, .int .i64 x.f4.f2, v7, .int .i64 x.f5.f0, .int .i64 x.f5.f1, .int .i64 x.f5.f2, v11, .int .i64 x.f6], rfl, ⟨v1, rfl, g1⟩, ⟨[.string x.f2], [.bool x.f3, .int .i64 x.f4.f0, .int .i64 x.f4.f1, .int .i64 x.f4.f2, v7, .int .i64 x.f5.f0, .int .i64 x.f5.f1, .int .i64 x.f5.f2, v11, .int .i64 x.f6], rfl, rfl, ⟨[.bool x.f3], [.int .i64 x.f4.f0, .int .i64 x.f4.f1, .int .i64 x.f4.f2, v7, .int .i64 x.f5.f0, .int .i64 x.f5.f1, .int .i64 x.f5.f2, v11, .int .i64 x.f6], rfl, rfl, ⟨[.int .i64 x.f4.f0, .int .i64 x.f4.f1, .int .i64 x.f4.f2, v7], [.int .i64 x.f5.f0, .int .i64 x.f5.f1, .int .i64 x.f5.f2, v11, .int .i64 x.f6], rfl, (k134_mkM w base ok x.f4 g7), ⟨[.int .i64 x.f5.f0, .int .i64 x.f5.f1, .int .i64 x.f5.f2, v11], [.int .i64 x.f6], rfl, (k134_mkM w base ok x.f5 g11), rfl⟩⟩⟩⟩⟩⟩
theorem k136_openF {W : World} {ok : Nat → Prop} {x : S136} {cs : List Value} (h : Kd.FK k136 W ok x cs) : ∃ A1 c1 A7 c7 A11 c11, cs = [.int .i64 x.f0, .slice A1 x.f1.length c1, .string x.f2, .bool x.f3, .int .i64 x.f4.f0, .int .i64 x.f4.f1, .int .i64 x.f4.f2, .slice A7 x.f4.f3.length c7, .int .i64 x.f5.f0, .int .i64 x.f5.f1, .int .i64 x.f5.f2, .slice A11 x.f5.f3.length c11, .int .i64 x.f6] ∧ x.f1.length ≤ c1 ∧ Kd.F k42 W ok A1 x.f1.length x.f1 ∧ x.f4.f3.length ≤ c7 ∧ Kd.F k134 W ok A7 x.f4.f3.length x.f4.f3 ∧ x.f5.f3.length ≤ c11 ∧ Kd.F k134 W ok A11 x.f5.f3.length x.f5.f3 := by
  obtain ⟨A1, c1, A7, c7, A11, c11, rfl, l1, _, l7, _, l11, _⟩ := k136_open (Kd.FK_now h)
  exact ⟨A1, c1, A7, c7, A11, c11, rfl, l1, (fun W' hW => by obtain ⟨A1_, c1_, A7_, c7_, A11_, c11_, he, l1_, g1_, l7_, g7_, l11_, g11_⟩ := k136_open (h W' hW); injection (Option.some.inj (show some (Value.slice A1 x.f1.length c1) = some (Value.slice A1_ x.f1.length c1_) from congrArg (fun l => l[1]?) he)) with ha_ _ _; rw [ha_]; exact g1_), l7, (fun W' hW => by obtain ⟨A1_, c1_, A7_, c7_, A11_, c11_, he, l1_, g1_, l7_, g7_, l11_, g11_⟩ := k136_open (h W' hW); injection (Option.some.inj (show some (Value.slice A7 x.f4.f3.length c7) = some (Value.slice A7_ x.f4.f3.length c7_) from congrArg (fun l => l[7]?) he)) with ha_ _ _; rw [ha_]; exact g7_), l11, (fun W' hW => by obtain ⟨A1_, c1_, A7_, c7_, A11_, c11_, he, l1_, g1_, l7_, g7_, l11_, g11_⟩ := k136_open (h W' hW); injection (Option.some.inj (show some (Value.slice A11 x.f5.f3.length c11) = some (Value.slice A11_ x.f5.f3.length c11_) from congrArg (fun l => l[11]?) he)) with ha_ _ _; rw [ha_]; exact g11_)⟩
theorem k136_mkF (W : World) (ok : Nat → Prop) (x : S136) {A1 : Option Addr} {c1 : Nat} (l1 : x.f1.length ≤ c1) (g1 : Kd.F k42 W ok A1 x.f1.length x.f1) {A7 : Option Addr} {c7 : Nat} (l7 : x.f4.f3.length ≤ c7) (g7 : Kd.F k134 W ok A7 x.f4.f3.length x.f4.f3) {A11 : Option Addr} {c11 : Nat} (l11 : x.f5.f3.length ≤ c11) (g11 : Kd.F k134 W ok A11 x.f5.f3.length x.f5.f3) : Kd.FK k136 W ok x [.int .i64 x.f0, .slice A1 x.f1.length c1, .string x.f2, .bool x.f3, .int .i64 x.f4.f0, .int .i64 x.f4.f1, .int .i64 x.f4.f2, .slice A7 x.f4.f3.length c7, .int .i64 x.f5.f0, .int .i64 x.f5.f1, .int .i64 x.f5.f2, .slice A11 x.f5.f3.length c11, .int .i64 x.f6] := fun W2 hW => k136_mk W2 x l1 (g1 W2 hW) l7 (g7 W2 hW) l11 (g11 W2 hW)
def rd_T136 (xs : List S136) (i : Int) : S136 := xs.getD i.toNat z136
theorem at_T136 {w : World} {A : Option Addr} {n : Nat} {xs : List S136} (h : Kd.C k136 w A n xs) (i : Int) (h0 : 0 ≤ i) (h1 : i < n) : ∃ ad A1 c1 A7 c7 A11 c11, A = some ad ∧ w.cell? (ad.add (i.toNat * 13)) = some (.int .i64 (rd_T136 xs i).f0) ∧ w.cell? ⟨(ad.add (i.toNat * 13)).block, (ad.add (i.toNat * 13)).off + 1, none⟩ = some (.slice A1 (rd_T136 xs i).f1.length c1) ∧ w.cell? ⟨(ad.add (i.toNat * 13)).block, (ad.add (i.toNat * 13)).off + 2, none⟩ = some (.string (rd_T136 xs i).f2) ∧ w.cell? ⟨(ad.add (i.toNat * 13)).block, (ad.add (i.toNat * 13)).off + 3, none⟩ = some (.bool (rd_T136 xs i).f3) ∧ w.cell? ⟨(ad.add (i.toNat * 13)).block, (ad.add (i.toNat * 13)).off + 4, none⟩ = some (.int .i64 (rd_T136 xs i).f4.f0) ∧ w.cell? ⟨(ad.add (i.toNat * 13)).block, (ad.add (i.toNat * 13)).off + 5, none⟩ = some (.int .i64 (rd_T136 xs i).f4.f1) ∧ w.cell? ⟨(ad.add (i.toNat * 13)).block, (ad.add (i.toNat * 13)).off + 6, none⟩ = some (.int .i64 (rd_T136 xs i).f4.f2) ∧ w.cell? ⟨(ad.add (i.toNat * 13)).block, (ad.add (i.toNat * 13)).off + 7, none⟩ = some (.slice A7 (rd_T136 xs i).f4.f3.length c7) ∧ w.cell? ⟨(ad.add (i.toNat * 13)).block, (ad.add (i.toNat * 13)).off + 8, none⟩ = some (.int .i64 (rd_T136 xs i).f5.f0) ∧ w.cell? ⟨(ad.add (i.toNat * 13)).block, (ad.add (i.toNat * 13)).off + 9, none⟩ = some (.int .i64 (rd_T136 xs i).f5.f1) ∧ w.cell? ⟨(ad.add (i.toNat * 13)).block, (ad.add (i.toNat * 13)).off + 10, none⟩ = some (.int .i64 (rd_T136 xs i).f5.f2) ∧ w.cell? ⟨(ad.add (i.toNat * 13)).block, (ad.add (i.toNat * 13)).off + 11, none⟩ = some (.slice A11 (rd_T136 xs i).f5.f3.length c11) ∧ w.cell? ⟨(ad.add (i.toNat * 13)).block, (ad.add (i.toNat * 13)).off + 12, none⟩ = some (.int .i64 (rd_T136 xs i).f6) ∧ (rd_T136 xs i).f1.length ≤ c1 ∧ k42.C w A1 (rd_T136 xs i).f1.length (rd_T136 xs i).f1 ∧ (rd_T136 xs i).f4.f3.length ≤ c7 ∧ k134.C w A7 (rd_T136 xs i).f4.f3.length (rd_T136 xs i).f4.f3 ∧ (rd_T136 xs i).f5.f3.length ≤ c11 ∧ k134.C w A11 (rd_T136 xs i).f5.f3.length (rd_T136 xs i).f5.f3 := by
  obtain ⟨ad, c, e, _, hK, hc0⟩ := Kd.C_get h z136 i h0 h1
  have hc : ∀ j u, c[j]? = some u → w.cell? (ad.add (i.toNat * 13 + j)) = some u := hc0
  obtain ⟨A1, c1, A7, c7, A11, c11, rfl, l1, g1, l7, g7, l11, g11⟩ := k136_open hK
  exact ⟨ad, A1, c1, A7, c7, A11, c11, e, hc 0 _ rfl, by rw [← add_field _ _ 1 (by omega)]; exact hc 1 _ rfl, by rw [← add_field _ _ 2 (by omega)]; exact hc 2 _ rfl, by rw [← add_field _ _ 3 (by omega)]; exact hc 3 _ rfl, by rw [← add_field _ _ 4 (by omega)]; exact hc 4 _ rfl, by rw [← add_field _ _ 5 (by omega)]; exact hc 5 _ rfl, by rw [← add_field _ _ 6 (by omega)]; exact hc 6 _ rfl, by rw [← add_field _ _ 7 (by omega)]; exact hc 7 _ rfl, by rw [← add_field _ _ 8 (by omega)]; exact hc 8 _ rfl, by rw [← add_field _ _ 9 (by omega)]; exact hc 9 _ rfl, by rw [← add_field _ _ 10 (by omega)]; exact hc 10 _ rfl, by rw [← add_field _ _ 11 (by omega)]; exact hc 11 _ rfl, by rw [← add_field _ _ 12 (by omega)]; exact hc 12 _ rfl, l1, g1, l7, g7, l11, g11⟩

def rd_L10 (xs : List (List S136)) (i : Int) : (List S136) := xs.getD i.toNat ([] : List S136)
theorem at_L10 {w : World} {A : Option Addr} {n : Nat} {xs : List (List S136)} (h : Kd.C (Kd.slice 136 k136) w A n xs) (i : Int) (h0 : 0 ≤ i) (h1 : i < n) : ∃ ad A0 c0, A = some ad ∧ w.cell? (ad.add i.toNat) = some (.slice A0 (rd_L10 xs i).length c0) ∧ (rd_L10 xs i).length ≤ c0 ∧ k136.C w A0 (rd_L10 xs i).length (rd_L10 xs i) := by
  obtain ⟨ad, c, e, _, hK, hc0⟩ := Kd.C_get h ([] : List S136) i h0 h1
  have hc : ∀ j u, c[j]? = some u → w.cell? (ad.add (i.toNat * 1 + j)) = some u := hc0
  obtain ⟨A0, c0, rfl, l0, g0⟩ := hK
  exact ⟨ad, A0, c0, e, by have hq := hc 0 _ rfl; rwa [Nat.mul_one, Nat.add_zero] at hq, l0, g0⟩

/-! #### struct type 46 -/
structure S46 where
  f0 : S42
  f1 : (List S48)
  f2 : (List S136)
def z46 : S46 := ⟨z42, ([] : List S48), ([] : List S136)⟩
def k46 : Kd S46 := Kd.iso (Kd.pair k42 (Kd.pair (Kd.slice 48 k48) (Kd.slice 136 k136))) (fun x : S46 => (x.f0, x.f1, x.f2))
theorem k46_open {w : World} {x : S46} {cs : List Value} (h : k46.K w x cs) : ∃ A3 c3 A4 c4, cs = [.string x.f0.f0, .int .i64 x.f0.f1, .int .i64 x.f0.f2, .slice A3 x.f1.length c3, .slice A4 x.f2.length c4] ∧ x.f1.length ≤ c3 ∧ k48.C w A3 x.f1.length x.f1 ∧ x.f2.length ≤ c4 ∧ k136.C w A4 x.f2.length x.f2 := by
  obtain ⟨_, _, rfl, s0, ⟨_, _, rfl, ⟨A3, c3, rfl, l3, g3⟩, ⟨A4, c4, rfl, l4, g4⟩⟩⟩ := h
  obtain rfl := k42_open s0
  exact ⟨A3, c3, A4, c4, rfl, l3, g3, l4, g4⟩
theorem k46_openM {w : World} {base : Nat} {ok : Nat → Prop} {x : S46} {cs : List Value} (h : k46.M w base ok x cs) : ∃ v3 v4, cs = [.string x.f0.f0, .int .i64 x.f0.f1, .int .i64 x.f0.f2, v3, v4] ∧ k48.R 48 w base ok v3 x.f1 ∧ k136.R 136 w base ok v4 x.f2 := by
  obtain ⟨_, _, rfl, s0, ⟨_, _, rfl, ⟨v3, rfl, g3⟩, ⟨v4, rfl, g4⟩⟩⟩ := h
  obtain rfl := k42_openM s0
  exact ⟨v3, v4, rfl, g3, g4⟩
theorem k46_mk (w : World) (x : S46) {A3 : Option Addr} {c3 : Nat} (l3 : x.f1.length ≤ c3) (g3 : k48.C w A3 x.f1.length x.f1) {A4 : Option Addr} {c4 : Nat} (l4 : x.f2.length ≤ c4) (g4 : k136.C w A4 x.f2.length x.f2) : k46.K w x [.string x.f0.f0, .int .i64 x.f0.f1, .int .i64 x.f0.f2, .slice A3 x.f1.length c3, .slice A4 x.f2.length c4] := ⟨[.string x.f0.f0, .int .i64 x.f0.f1, .int .i64 x.f0.f2], [.slice A3 x.f1.length c3, .slice A4 x.f2.length c4], rfl, (k42_mk w x.f0 ), ⟨[.slice A3 x.f1.length c3], [.slice A4 x.f2.length c4], rfl, ⟨A3, c3, rfl, l3, g3⟩, ⟨A4, c4, rfl, l4, g4⟩⟩⟩
theorem k46_mkM (w : World) (base : Nat) (ok : Nat → Prop) (x : S46) {v3 : Value} (g3 : k48.R 48 w base ok v3 x.f1) {v4 : Value} (g4 : k136.R 136 w base ok v4 x.f2) : k46.M w base ok x [.string x.f0.f0, .int .i64 x.f0.f1, .int .i64 x.f0.f2, v3, v4] := ⟨[.string x.f0.f0, .int .i64 x.f0.f1, .int .i64 x.f0.f2], [v3, v4], rfl, (k42_mkM w base ok x.f0 ), ⟨[v3], [v4], rfl, ⟨v3, rfl, g3⟩, ⟨v4, rfl, g4⟩⟩⟩
theorem k46_openF {W : World} {ok : Nat → Prop} {x : S46} {cs : List Value} (h : Kd.FK k46 W ok x cs) : ∃ A3 c3 A4 c4, cs = [.string x.f0.f0, .int .i64 x.f0.f1, .int .i64 x.f0.f2, .slice A3 x.f1.length c3, .slice A4 x.f2.length c4] ∧ x.f1.length ≤ c3 ∧ Kd.F k48 W ok A3 x.f1.length x.f1 ∧ x.f2.length ≤ c4 ∧ Kd.F k136 W ok A4 x.f2.length x.f2 := by
  obtain ⟨A3, c3, A4, c4, rfl, l3, _, l4, _⟩ := k46_open (Kd.FK_now h)
  exact ⟨A3, c3, A4, c4, rfl, l3, (fun W' hW => by obtain ⟨A3_, c3_, A4_, c4_, he, l3_, g3_, l4_, g4_⟩ := k46_open (h W' hW); injection (Option.some.inj (show some (Value.slice A3 x.f1.length c3) = some (Value.slice A3_ x.f1.length c3_) from congrArg (fun l => l[3]?) he)) with ha_ _ _; rw [ha_]; exact g3_), l4, (fun W' hW => by obtain ⟨A3_, c3_, A4_, c4_, he, l3_, g3_, l4_, g4_⟩ := k46_open (h W' hW); injection (Option.some.inj (show some (Value.slice A4 x.f2.length c4) = some (Value.slice A4_ x.f2.length c4_) from congrArg (fun l => l[4]?) he)) with ha_ _ _; rw [ha_]; exact g4_)⟩
theorem k46_mkF (W : World) (ok : Nat → Prop) (x : S46) {A3 : Option Addr} {c3 : Nat} (l3 : x.f1.length ≤ c3) (g3 : Kd.F k48 W ok A3 x.f1.length x.f1) {A4 : Option Addr} {c4 : Nat} (l4 : x.f2.length ≤ c4) (g4 : Kd.F k136 W ok A4 x.f2.length x.f2) : Kd.FK k46 W ok x [.string x.f0.f0, .int .i64 x.f0.f1, .int .i64 x.f0.f2, .slice A3 x.f1.length c3, .slice A4 x.f2.length c4] := fun W2 hW => k46_mk W2 x l3 (g3 W2 hW) l4 (g4 W2 hW)
def rd_T46 (xs : List S46) (i : Int) : S46 := xs.getD i.toNat z46
theorem at_T46 {w : World} {A : Option Addr} {n : Nat} {xs : List S46} (h : Kd.C k46 w A n xs) (i : Int) (h0 : 0 ≤ i) (h1 : i < n) : ∃ ad A3 c3 A4 c4, A = some ad ∧ w.cell? (ad.add (i.toNat * 5)) = some (.string (rd_T46 xs i).f0.f0) ∧ w.cell? ⟨(ad.add (i.toNat * 5)).block, (ad.add (i.toNat * 5)).off + 1, none⟩ = some (.int .i64 (rd_T46 xs i).f0.f1) ∧ w.cell? ⟨(ad.add (i.toNat * 5)).block, (ad.add (i.toNat * 5)).off + 2, none⟩ = some (.int .i64 (rd_T46 xs i).f0.f2) ∧ w.cell? ⟨(ad.add (i.toNat * 5)).block, (ad.add (i.toNat * 5)).off + 3, none⟩ = some (.slice A3 (rd_T46 xs i).f1.length c3) ∧ w.cell? ⟨(ad.add (i.toNat * 5)).block, (ad.add (i.toNat * 5)).off + 4, none⟩ = some (.slice A4 (rd_T46 xs i).f2.length c4) ∧ (rd_T46 xs i).f1.length ≤ c3 ∧ k48.C w A3 (rd_T46 xs i).f1.length (rd_T46 xs i).f1 ∧ (rd_T46 xs i).f2.length ≤ c4 ∧ k136.C w A4 (rd_T46 xs i).f2.length (rd_T46 xs i).f2 := by
  obtain ⟨ad, c, e, _, hK, hc0⟩ := Kd.C_get h z46 i h0 h1
  have hc : ∀ j u, c[j]? = some u → w.cell? (ad.add (i.toNat * 5 + j)) = some u := hc0
  obtain ⟨A3, c3, A4, c4, rfl, l3, g3, l4, g4⟩ := k46_open hK
  exact ⟨ad, A3, c3, A4, c4, e, hc 0 _ rfl, by rw [← add_field _ _ 1 (by omega)]; exact hc 1 _ rfl, by rw [← add_field _ _ 2 (by omega)]; exact hc 2 _ rfl, by rw [← add_field _ _ 3 (by omega)]; exact hc 3 _ rfl, by rw [← add_field _ _ 4 (by omega)]; exact hc 4 _ rfl, l3, g3, l4, g4⟩

def rd_L12 (xs : List (List S46)) (i : Int) : (List S46) := xs.getD i.toNat ([] : List S46)
theorem at_L12 {w : World} {A : Option Addr} {n : Nat} {xs : List (List S46)} (h : Kd.C (Kd.slice 46 k46) w A n xs) (i : Int) (h0 : 0 ≤ i) (h1 : i < n) : ∃ ad A0 c0, A = some ad ∧ w.cell? (ad.add i.toNat) = some (.slice A0 (rd_L12 xs i).length c0) ∧ (rd_L12 xs i).length ≤ c0 ∧ k46.C w A0 (rd_L12 xs i).length (rd_L12 xs i) := by
  obtain ⟨ad, c, e, _, hK, hc0⟩ := Kd.C_get h ([] : List S46) i h0 h1
  have hc : ∀ j u, c[j]? = some u → w.cell? (ad.add (i.toNat * 1 + j)) = some u := hc0
  obtain ⟨A0, c0, rfl, l0, g0⟩ := hK
  exact ⟨ad, A0, c0, e, by have hq := hc 0 _ rfl; rwa [Nat.mul_one, Nat.add_zero] at hq, l0, g0⟩

/-! #### struct type 52 -/
structure S52 where
  f0 : Int
  f1 : Int
  f2 : Int
def z52 : S52 := ⟨(0 : Int), (0 : Int), (0 : Int)⟩
def k52 : Kd S52 := Kd.iso (Kd.pair (Kd.int .i64) (Kd.pair (Kd.int .i64) (Kd.int .i64))) (fun x : S52 => (x.f0, x.f1, x.f2))
theorem k52_open {w : World} {x : S52} {cs : List Value} (h : k52.K w x cs) : cs = [.int .i64 x.f0, .int .i64 x.f1, .int .i64 x.f2] := by
  obtain ⟨_, _, rfl, rfl, ⟨_, _, rfl, rfl, rfl⟩⟩ := h
  exact rfl
theorem k52_openM {w : World} {base : Nat} {ok : Nat → Prop} {x : S52} {cs : List Value} (h : k52.M w base ok x cs) : cs = [.int .i64 x.f0, .int .i64 x.f1, .int .i64 x.f2] := by
  obtain ⟨_, _, rfl, rfl, ⟨_, _, rfl, rfl, rfl⟩⟩ := h
  exact rfl
theorem k52_mk (w : World) (x : S52)  : k52.K w x [.int .i64 x.f0, .int .i64 x.f1, .int .i64 x.f2] := ⟨[.int .i64 x.f0], [.int .i64 x.f1, .int .i64 x.f2], rfl, rfl, ⟨[.int .i64 x.f1], [.int .i64 x.f2], rfl, rfl, rfl⟩⟩
theorem k52_mkM (w : World) (base : Nat) (ok : Nat → Prop) (x : S52)  : k52.M w base ok x [.int .i64 x.f0, .int .i64 x.f1, .int .i64 x.f2] := ⟨[.int .i64 x.f0], [.int .i64 x.f1, .int .i64 x.f2], rfl, rfl, ⟨[.int .i64 x.f1], [.int .i64 x.f2], rfl, rfl, rfl⟩⟩
theorem k52_mkF (W : World) (ok : Nat → Prop) (x : S52) : Kd.FK k52 W ok x [.int .i64 x.f0, .int .i64 x.f1, .int .i64 x.f2] := fun W2 _ => k52_mk W2 x
def rd_T52 (xs : List S52) (i : Int) : S52 := xs.getD i.toNat z52
theorem at_T52 {w : World} {A : Option Addr} {n : Nat} {xs : List S52} (h : Kd.C k52 w A n xs) (i : Int) (h0 : 0 ≤ i) (h1 : i < n) : ∃ ad , A = some ad ∧ w.cell? (ad.add (i.toNat * 3)) = some (.int .i64 (rd_T52 xs i).f0) ∧ w.cell? ⟨(ad.add (i.toNat * 3)).block, (ad.add (i.toNat * 3)).off + 1, none⟩ = some (.int .i64 (rd_T52 xs i).f1) ∧ w.cell? ⟨(ad.add (i.toNat * 3)).block, (ad.add (i.toNat * 3)).off + 2, none⟩ = some (.int .i64 (rd_T52 xs i).f2) := by
  obtain ⟨ad, c, e, _, hK, hc0⟩ := Kd.C_get h z52 i h0 h1
  have hc : ∀ j u, c[j]? = some u → w.cell? (ad.add (i.toNat * 3 + j)) = some u := hc0
  obtain rfl := k52_open hK
  exact ⟨ad, e, hc 0 _ rfl, by rw [← add_field _ _ 1 (by omega)]; exact hc 1 _ rfl, by rw [← add_field _ _ 2 (by omega)]; exact hc 2 _ rfl⟩

def rd_L14 (xs : List (List S52)) (i : Int) : (List S52) := xs.getD i.toNat ([] : List S52)
theorem at_L14 {w : World} {A : Option Addr} {n : Nat} {xs : List (List S52)} (h : Kd.C (Kd.slice 52 k52) w A n xs) (i : Int) (h0 : 0 ≤ i) (h1 : i < n) : ∃ ad A0 c0, A = some ad ∧ w.cell? (ad.add i.toNat) = some (.slice A0 (rd_L14 xs i).length c0) ∧ (rd_L14 xs i).length ≤ c0 ∧ k52.C w A0 (rd_L14 xs i).length (rd_L14 xs i) := by
  obtain ⟨ad, c, e, _, hK, hc0⟩ := Kd.C_get h ([] : List S52) i h0 h1
  have hc : ∀ j u, c[j]? = some u → w.cell? (ad.add (i.toNat * 1 + j)) = some u := hc0
  obtain ⟨A0, c0, rfl, l0, g0⟩ := hK
  exact ⟨ad, A0, c0, e, by have hq := hc 0 _ rfl; rwa [Nat.mul_one, Nat.add_zero] at hq, l0, g0⟩

def rd_L15 (xs : List (List (List S52))) (i : Int) : (List (List S52)) := xs.getD i.toNat ([] : List (List S52))
theorem at_L15 {w : World} {A : Option Addr} {n : Nat} {xs : List (List (List S52))} (h : Kd.C (Kd.slice 49 (Kd.slice 52 k52)) w A n xs) (i : Int) (h0 : 0 ≤ i) (h1 : i < n) : ∃ ad A0 c0, A = some ad ∧ w.cell? (ad.add i.toNat) = some (.slice A0 (rd_L15 xs i).length c0) ∧ (rd_L15 xs i).length ≤ c0 ∧ (Kd.slice 52 k52).C w A0 (rd_L15 xs i).length (rd_L15 xs i) := by
  obtain ⟨ad, c, e, _, hK, hc0⟩ := Kd.C_get h ([] : List (List S52)) i h0 h1
  have hc : ∀ j u, c[j]? = some u → w.cell? (ad.add (i.toNat * 1 + j)) = some u := hc0
  obtain ⟨A0, c0, rfl, l0, g0⟩ := hK
  exact ⟨ad, A0, c0, e, by have hq := hc 0 _ rfl; rwa [Nat.mul_one, Nat.add_zero] at hq, l0, g0⟩

end Go.Proofs.YtcejdokeaoklaaaDoor.PImp
