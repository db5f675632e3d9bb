/-
  No cell of these rows narrows 'for every input' (looked for: loops, veiled, ifaces, maps, wideKeys, modest, calm, conditions, laid).
  DERIVED. THE GIVEN ROWS OF THIS SEAT. 6 by the template 'for every input the law returns true; each argument reads behind the call as it read before'; 0 by the template 'total and deterministic' (their statements: YtcejdokeaoklaaaTotals.lean).
  GIVEN WITH THE SEED: the statements are not yours to turn. If you find one false, say at which input.
  Laid BY PROGRAM, IN A SANDBOX (cutbox-rows.mjs): the forced cells as the released guide's own fill.sh prints them over the translation 8c8bcbd9aa403c0b… (all of the seat's roots in one cut). By AI agents, Wed Nov 11 2026. No macro, syntax, notation, axiom, sorry.
-/
import Derived.Test.YtcejdokeaoklaaaChecked
import GoSem.Claim
import GoSem.ClaimJoined
import GoSem.ClaimMapViews
import Derived.JoinedTies
import Derived.KernelRfl
namespace Go.Proofs.Ytcejdokeaoklaaa
/- THE CELL 'sum', in the pinned program and in every row, IS THE sha256 OF THE DUMP (.gsa) THAT YtcejdokeaoklaaaProg.lean LOADS. Nothing in Lean hashes anything: it is a label: what it is worth is what the hold of that sum in a sandbox is worth. -/
noncomputable def Try.pinned : Pinned := { name := "ytcejdokeaoklaaa", sum := "8c8bcbd9aa403c0ba4ba79499a81d9a1f5280f72fb14f128c124d2952fa15e72", checked := Try.checked }
namespace Rows
def none {H : Type} : Left H := { results := [], args := [] }

/-- 'scholiastlaw04.ChunkCuts': WHATEVER THE INPUT: true; the input reads as it did. -/
def chunkCutsSpec : ChangeSpec := { name := "chunkCuts", fn := fun _ => fun
  | [d] => { results := [.lit (.bool true)], args := [d] }
  | _ => none }
def chunkCutsRow : OpenClaim := { program := "ytcejdokeaoklaaa", sum := "8c8bcbd9aa403c0ba4ba79499a81d9a1f5280f72fb14f128c124d2952fa15e72", func := "scholiast/scholiastlaw04.ChunkCuts", spec := "chunkCuts", unfollowed := true, recurses := true, apart := false }
def ChunkCutsSaid : Prop := chunkCutsRow.holds Try.pinned (OpenSpec.ofChange chunkCutsSpec)

/-- ITS FALSE NEIGHBOUR: 'it returns false'. Refute it at one input. -/
def chunkCutsWrong : ChangeSpec := { name := "chunkCuts", fn := fun _ => fun
  | [d] => { results := [.lit (.bool false)], args := [d] }
  | _ => none }
def ChunkCutsWrongFalsely : Prop := chunkCutsRow.holds Try.pinned (OpenSpec.ofChange chunkCutsWrong)

/-- 'scholiastlaw04.ChunkKinds': WHATEVER THE INPUT: true; the input reads as it did. -/
def chunkKindsSpec : ChangeSpec := { name := "chunkKinds", fn := fun _ => fun
  | [d1, d2] => { results := [.lit (.bool true)], args := [d1, d2] }
  | _ => none }
def chunkKindsRow : OpenClaim := { program := "ytcejdokeaoklaaa", sum := "8c8bcbd9aa403c0ba4ba79499a81d9a1f5280f72fb14f128c124d2952fa15e72", func := "scholiast/scholiastlaw04.ChunkKinds", spec := "chunkKinds", unfollowed := true, recurses := true, apart := false }
def ChunkKindsSaid : Prop := chunkKindsRow.holds Try.pinned (OpenSpec.ofChange chunkKindsSpec)

/-- ITS FALSE NEIGHBOUR: 'it returns false'. Refute it at one input. -/
def chunkKindsWrong : ChangeSpec := { name := "chunkKinds", fn := fun _ => fun
  | [d1, d2] => { results := [.lit (.bool false)], args := [d1, d2] }
  | _ => none }
def ChunkKindsWrongFalsely : Prop := chunkKindsRow.holds Try.pinned (OpenSpec.ofChange chunkKindsWrong)

/-- 'scholiastlaw04.ChunkTouched': WHATEVER THE INPUT: true; the input reads as it did. -/
def chunkTouchedSpec : ChangeSpec := { name := "chunkTouched", fn := fun _ => fun
  | [d1, d2, d3] => { results := [.lit (.bool true)], args := [d1, d2, d3] }
  | _ => none }
def chunkTouchedRow : OpenClaim := { program := "ytcejdokeaoklaaa", sum := "8c8bcbd9aa403c0ba4ba79499a81d9a1f5280f72fb14f128c124d2952fa15e72", func := "scholiast/scholiastlaw04.ChunkTouched", spec := "chunkTouched", unfollowed := true, recurses := true, apart := false }
def ChunkTouchedSaid : Prop := chunkTouchedRow.holds Try.pinned (OpenSpec.ofChange chunkTouchedSpec)

/-- ITS FALSE NEIGHBOUR: 'it returns false'. Refute it at one input. -/
def chunkTouchedWrong : ChangeSpec := { name := "chunkTouched", fn := fun _ => fun
  | [d1, d2, d3] => { results := [.lit (.bool false)], args := [d1, d2, d3] }
  | _ => none }
def ChunkTouchedWrongFalsely : Prop := chunkTouchedRow.holds Try.pinned (OpenSpec.ofChange chunkTouchedWrong)

/-- 'scholiastlaw04.ChunkCovers': WHATEVER THE INPUT: true; the input reads as it did. -/
def chunkCoversSpec : ChangeSpec := { name := "chunkCovers", fn := fun _ => fun
  | [d1, d2, d3] => { results := [.lit (.bool true)], args := [d1, d2, d3] }
  | _ => none }
def chunkCoversRow : OpenClaim := { program := "ytcejdokeaoklaaa", sum := "8c8bcbd9aa403c0ba4ba79499a81d9a1f5280f72fb14f128c124d2952fa15e72", func := "scholiast/scholiastlaw04.ChunkCovers", spec := "chunkCovers", unfollowed := true, recurses := true, apart := false }
def ChunkCoversSaid : Prop := chunkCoversRow.holds Try.pinned (OpenSpec.ofChange chunkCoversSpec)

/-- ITS FALSE NEIGHBOUR: 'it returns false'. Refute it at one input. -/
def chunkCoversWrong : ChangeSpec := { name := "chunkCovers", fn := fun _ => fun
  | [d1, d2, d3] => { results := [.lit (.bool false)], args := [d1, d2, d3] }
  | _ => none }
def ChunkCoversWrongFalsely : Prop := chunkCoversRow.holds Try.pinned (OpenSpec.ofChange chunkCoversWrong)

/-- 'scholiastlaw04.ChunkJoins': WHATEVER THE INPUT: true; the input reads as it did. -/
def chunkJoinsSpec : ChangeSpec := { name := "chunkJoins", fn := fun _ => fun
  | [d1, d2] => { results := [.lit (.bool true)], args := [d1, d2] }
  | _ => none }
def chunkJoinsRow : OpenClaim := { program := "ytcejdokeaoklaaa", sum := "8c8bcbd9aa403c0ba4ba79499a81d9a1f5280f72fb14f128c124d2952fa15e72", func := "scholiast/scholiastlaw04.ChunkJoins", spec := "chunkJoins", unfollowed := true, recurses := true, apart := false }
def ChunkJoinsSaid : Prop := chunkJoinsRow.holds Try.pinned (OpenSpec.ofChange chunkJoinsSpec)

/-- ITS FALSE NEIGHBOUR: 'it returns false'. Refute it at one input. -/
def chunkJoinsWrong : ChangeSpec := { name := "chunkJoins", fn := fun _ => fun
  | [d1, d2] => { results := [.lit (.bool false)], args := [d1, d2] }
  | _ => none }
def ChunkJoinsWrongFalsely : Prop := chunkJoinsRow.holds Try.pinned (OpenSpec.ofChange chunkJoinsWrong)

/-- 'scholiastlaw04.ChunkStays': WHATEVER THE INPUT: true; the input reads as it did. -/
def chunkStaysSpec : ChangeSpec := { name := "chunkStays", fn := fun _ => fun
  | [d1, d2, d3] => { results := [.lit (.bool true)], args := [d1, d2, d3] }
  | _ => none }
def chunkStaysRow : OpenClaim := { program := "ytcejdokeaoklaaa", sum := "8c8bcbd9aa403c0ba4ba79499a81d9a1f5280f72fb14f128c124d2952fa15e72", func := "scholiast/scholiastlaw04.ChunkStays", spec := "chunkStays", unfollowed := true, recurses := true, apart := false }
def ChunkStaysSaid : Prop := chunkStaysRow.holds Try.pinned (OpenSpec.ofChange chunkStaysSpec)

/-- ITS FALSE NEIGHBOUR: 'it returns false'. Refute it at one input. -/
def chunkStaysWrong : ChangeSpec := { name := "chunkStays", fn := fun _ => fun
  | [d1, d2, d3] => { results := [.lit (.bool false)], args := [d1, d2, d3] }
  | _ => none }
def ChunkStaysWrongFalsely : Prop := chunkStaysRow.holds Try.pinned (OpenSpec.ofChange chunkStaysWrong)

/- THE SECOND FORM. 'bulk': how many values and letters a reading holds, each counted each time it is reached (what is shared counts as often as it is met; a slice's spare places count too). A statement '..UptoSaid' is the law's where the arguments, and the package variables that the reading takes, are together of bulk at most 1048576: NARROWER than '..Said'. Prove '..Said' where nothing that the law and all that it calls make is longer than what came in: it says more and counts as full. Else prove '..UptoSaid'. A law counts once. -/
mutual
def uptoBulk {H : Type} : DataW H → Nat
  | .lit (.string bytes) => bytes.length + 1
  | .lit _ => 1
  | .nil => 1
  | .ptr d => uptoBulk d + 1
  | .slice elems spare => uptoBulkAll elems + uptoBulkAll spare + 1
  | .agg parts => uptoBulkAll parts + 1
  | .iface _ d => uptoBulk d + 1
  | .map entries => uptoBulkEntries entries + 1
  | .held _ => 1
def uptoBulkAll {H : Type} : List (DataW H) → Nat
  | [] => 0
  | d :: r => uptoBulk d + uptoBulkAll r
def uptoBulkEntries {H : Type} : List (Lit × DataW H) → Nat
  | [] => 0
  | x :: r => uptoBulkEntry x + uptoBulkEntries r
def uptoBulkEntry {H : Type} : Lit × DataW H → Nat
  | (.string bytes, d) => bytes.length + uptoBulk d + 1
  | (_, d) => uptoBulk d + 1
 end
def uptoSmall : (H : Type) → List (DataW H) → Bool := fun _ ds => decide (uptoBulkAll ds ≤ 1048576)
def OpenSpec.upto (s : _root_.Go.ChangeSpec) : _root_.Go.OpenSpec := { _root_.Go.OpenSpec.ofChange s with cond := some uptoSmall }

/-- 'scholiastlaw04.ChunkCuts', WHERE WHAT IT READS IS OF BULK AT MOST 1048576: true; the input reads as it did. -/
def chunkCutsUptoRow : OpenClaim := { program := "ytcejdokeaoklaaa", sum := "8c8bcbd9aa403c0ba4ba79499a81d9a1f5280f72fb14f128c124d2952fa15e72", func := "scholiast/scholiastlaw04.ChunkCuts", spec := "chunkCuts", unfollowed := true, recurses := true, apart := false, narrowed := true }
def ChunkCutsUptoSaid : Prop := chunkCutsUptoRow.holds Try.pinned (OpenSpec.upto chunkCutsSpec)

/-- 'scholiastlaw04.ChunkKinds', WHERE WHAT IT READS IS OF BULK AT MOST 1048576: true; the input reads as it did. -/
def chunkKindsUptoRow : OpenClaim := { program := "ytcejdokeaoklaaa", sum := "8c8bcbd9aa403c0ba4ba79499a81d9a1f5280f72fb14f128c124d2952fa15e72", func := "scholiast/scholiastlaw04.ChunkKinds", spec := "chunkKinds", unfollowed := true, recurses := true, apart := false, narrowed := true }
def ChunkKindsUptoSaid : Prop := chunkKindsUptoRow.holds Try.pinned (OpenSpec.upto chunkKindsSpec)

/-- 'scholiastlaw04.ChunkTouched', WHERE WHAT IT READS IS OF BULK AT MOST 1048576: true; the input reads as it did. -/
def chunkTouchedUptoRow : OpenClaim := { program := "ytcejdokeaoklaaa", sum := "8c8bcbd9aa403c0ba4ba79499a81d9a1f5280f72fb14f128c124d2952fa15e72", func := "scholiast/scholiastlaw04.ChunkTouched", spec := "chunkTouched", unfollowed := true, recurses := true, apart := false, narrowed := true }
def ChunkTouchedUptoSaid : Prop := chunkTouchedUptoRow.holds Try.pinned (OpenSpec.upto chunkTouchedSpec)

/-- 'scholiastlaw04.ChunkCovers', WHERE WHAT IT READS IS OF BULK AT MOST 1048576: true; the input reads as it did. -/
def chunkCoversUptoRow : OpenClaim := { program := "ytcejdokeaoklaaa", sum := "8c8bcbd9aa403c0ba4ba79499a81d9a1f5280f72fb14f128c124d2952fa15e72", func := "scholiast/scholiastlaw04.ChunkCovers", spec := "chunkCovers", unfollowed := true, recurses := true, apart := false, narrowed := true }
def ChunkCoversUptoSaid : Prop := chunkCoversUptoRow.holds Try.pinned (OpenSpec.upto chunkCoversSpec)

/-- 'scholiastlaw04.ChunkJoins', WHERE WHAT IT READS IS OF BULK AT MOST 1048576: true; the input reads as it did. -/
def chunkJoinsUptoRow : OpenClaim := { program := "ytcejdokeaoklaaa", sum := "8c8bcbd9aa403c0ba4ba79499a81d9a1f5280f72fb14f128c124d2952fa15e72", func := "scholiast/scholiastlaw04.ChunkJoins", spec := "chunkJoins", unfollowed := true, recurses := true, apart := false, narrowed := true }
def ChunkJoinsUptoSaid : Prop := chunkJoinsUptoRow.holds Try.pinned (OpenSpec.upto chunkJoinsSpec)

/-- 'scholiastlaw04.ChunkStays', WHERE WHAT IT READS IS OF BULK AT MOST 1048576: true; the input reads as it did. -/
def chunkStaysUptoRow : OpenClaim := { program := "ytcejdokeaoklaaa", sum := "8c8bcbd9aa403c0ba4ba79499a81d9a1f5280f72fb14f128c124d2952fa15e72", func := "scholiast/scholiastlaw04.ChunkStays", spec := "chunkStays", unfollowed := true, recurses := true, apart := false, narrowed := true }
def ChunkStaysUptoSaid : Prop := chunkStaysUptoRow.holds Try.pinned (OpenSpec.upto chunkStaysSpec)

end Rows
end Go.Proofs.Ytcejdokeaoklaaa
